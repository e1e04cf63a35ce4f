import Derived.Test.YtnphjhbfpoekpaaGreatA1Pl
import Derived.Test.YtnphjhbfpoekpaaGreatA2Pl
import Derived.Deep.RegionHeld3
import Derived.Deep.RegionWith
import Derived.Deep.Light
import Derived.Deep.DeepCutAuto
import Derived.Test.YtnphjhbfpoekpaaGreatA0Pl
import Derived.Test.YtnphjhbfpoekpaaGreatRows
import Derived.Below
namespace Go.Proofs.YtnphjhbfpoekpaaGreat
set_option linter.unusedSimpArgs false
set_option linter.unusedVariables false
set_option linter.unnecessarySimpa false
open Go.RowKit
structure Q where
 t : Int
 a : Int
 b : Int
 c : Int
def Q.cells (q : Q) : List Value := [.int .i64 q.t, .int .i64 q.a, .int .i64 q.b, .int .i64 q.c]
def flat (ps : List Q) : List Value := ps.flatMap Q.cells
theorem flat_len (ps : List Q) : (flat ps).length = ps.length * 4 := by
 induction ps with
 | nil => rfl
 | cons p ps ih => simp only [flat, List.flatMap_cons, List.length_append] at ih ⊢; rw [ih]; simp [Q.cells]; omega
theorem flat_get (ps : List Q) (k j : Nat) (q : Q) (hq : ps[k]? = some q) (hj : j < 4) : (flat ps)[k * 4 + j]? = q.cells[j]? := by
 induction ps generalizing k with
 | nil => simp at hq
 | cons p ps ih =>
  cases k with
  | zero =>
   simp at hq; subst hq
   simp only [flat, List.flatMap_cons, Nat.zero_mul, Nat.zero_add]
   rw [List.getElem?_append_left (by simp [Q.cells]; omega)]
  | succ k =>
   simp at hq
   simp only [flat, List.flatMap_cons]
   rw [List.getElem?_append_right (by simp [Q.cells]; omega)]
   have := ih k hq
   simp only [flat] at this
   rw [← this]
   congr 1
   simp [Q.cells]; omega
theorem Rd.q {w : World} {A : Option Addr} {n : Nat} {ps : List Q} (h : Rd w A n 4 (flat ps)) {k : Nat} (hk : k < n) : ∃ g q, A = some ⟨g, 0, none⟩ ∧ ps[k]? = some q ∧
  w.cell? ⟨g, k * 4, none⟩ = some (.int .i64 q.t) ∧ w.cell? ⟨g, k * 4 + 1, none⟩ = some (.int .i64 q.a) ∧ w.cell? ⟨g, k * 4 + 2, none⟩ = some (.int .i64 q.b) ∧ w.cell? ⟨g, k * 4 + 3, none⟩ = some (.int .i64 q.c) := by
 obtain ⟨g, rfl, hc⟩ := h.2 (by omega)
 have hl : k < ps.length := by
  have := h.1
  rw [flat_len] at this
  omega
 have hq : ps[k]? = some ps[k] := zgh hl
 refine ⟨g, ps[k], rfl, hq, ?_, ?_, ?_, ?_⟩
 ·exact hc _ _ (by have := flat_get ps k 0 _ hq (by omega); simpa [Q.cells] using this)
 ·exact hc _ _ (by have := flat_get ps k 1 _ hq (by omega); simpa [Q.cells] using this)
 ·exact hc _ _ (by have := flat_get ps k 2 _ hq (by omega); simpa [Q.cells] using this)
 ·exact hc _ _ (by have := flat_get ps k 3 _ hq (by omega); simpa [Q.cells] using this)
theorem eqVec_int (x y z : Int) (w : World) : Calls Tryz.prog 93 #[.agg #[.int .i64 x, .int .i64 y, .int .i64 z], .agg #[.int .i64 x, .int .i64 y, .int .i64 z]] w fun e w' => e = .returned (.bool true) ∧ Below w.heap.size w w' := by
 have := eqVec_raw ⟨x, y, z⟩ ⟨x, y, z⟩ w
 simpa [V.eqB] using this
set_option maxHeartbeats 1000000 in
theorem eqNode_any (q : Q) (w : World) :
  Calls Tryz.prog 187 #[.agg #[.int .i64 q.t, .int .i64 q.a, .int .i64 q.b, .int .i64 q.c], .agg #[.int .i64 q.t, .int .i64 q.a, .int .i64 q.b, .int .i64 q.c]] w fun e w' => e = .returned (.bool true) ∧ Below w.heap.size w w' := by
 go_enter Tryz.func187, Tryz.ntmps187
 go_wp2_with (go_at_call 93; refine (eqVec_int _ _ _ _).mono ?_; rintro e w1 ⟨rfl, hb1⟩; obtain ⟨hc1, hf1⟩ := bcell hb1; have hs1 := hb1.size; (try simp at hs1); have hy10 : w.heap.size < w1.heap.size := (by omega); have hk10 := fun o => hc1 (w.heap.size) o zOm; have hg10 := fun o => hf1 (w.heap.size) o zOm; have hy11 : w.heap.size + 1 < w1.heap.size := (by omega); have hk11 := fun o => hc1 (w.heap.size + 1) o zOm; have hg11 := fun o => hf1 (w.heap.size + 1) o zOm; clear hc1 hf1)
 all_goals go_ret
 all_goals exact ⟨rfl, (by repeat (first | exact Below.refl _ _ | (refine zAc ?_ (zAa _ _)) | (refine zAc ?_ (by assumption)) | (refine Below.setCell ?_ (by simp <;> omega) _) | refine Below.drew ?_))⟩
set_option maxHeartbeats 1000000 in
theorem eqNodeS_any (A A' : Option Addr) (n c c' : Nat) (ps : List Q) (w : World) (hn : n ≤ 1048577) (ha : Rd w A n 4 (flat ps)) (hb : Rd w A' n 4 (flat ps)) (hl : ∀ g, A = some ⟨g, 0, none⟩ → g < w.heap.size) (hl' : ∀ g, A' = some ⟨g, 0, none⟩ → g < w.heap.size) :
  Calls Tryz.prog 122 #[.slice A n c, .slice A' n c'] w fun e w' => e = .returned (.bool true) ∧ Below w.heap.size w w' := by
 have hm : n ≤ 9223372036854775807 := by omega
 clear hn
 have HA := Lib.hid ha
 have HB := Lib.hid hb
 have HL := Lib.hid hl
 have HL' := Lib.hid hl'
 clear ha hb hl hl'
 go_enter Tryz.func122, Tryz.ntmps122
 go_wp2
 go_loopw [5] (fun i wr => ∃ k : Nat, k ≤ n ∧ i = .int .i64 k ∧ Below w.heap.size w wr) (fun i _ => n - (intOf i).toNat)
 case atStart => exact ⟨0, Nat.zero_le _, rfl, Below.refl _ _⟩
 case round =>
  obtain ⟨k, hk, rfl, hbw⟩ := hrel
  by_cases hlt : k < n
  ·obtain ⟨g, q, rfl, hq, c0, c1, c2, c3⟩ := HA.out.q hlt
   obtain ⟨g', q', rfl, hq', d0, d1, d2, d3⟩ := HB.out.q hlt
   obtain rfl : q = q' := by rw [hq] at hq'; exact Option.some.inj hq'
   have hg := HL.out g rfl
   have hg' := HL'.out g' rfl
   have C0 := (hbw.cell (p := ⟨g, k * 4, none⟩) hg).trans c0
   have C1 := (hbw.cell (p := ⟨g, k * 4 + 1, none⟩) hg).trans c1
   have C2 := (hbw.cell (p := ⟨g, k * 4 + 2, none⟩) hg).trans c2
   have C3 := (hbw.cell (p := ⟨g, k * 4 + 3, none⟩) hg).trans c3
   have D0 := (hbw.cell (p := ⟨g', k * 4, none⟩) hg').trans d0
   have D1 := (hbw.cell (p := ⟨g', k * 4 + 1, none⟩) hg').trans d1
   have D2 := (hbw.cell (p := ⟨g', k * 4 + 2, none⟩) hg').trans d2
   have D3 := (hbw.cell (p := ⟨g', k * 4 + 3, none⟩) hg').trans d3
   have hgr : g < wr.heap.size := Nat.lt_of_lt_of_le hg hbw.size
   have hgr' : g' < wr.heap.size := Nat.lt_of_lt_of_le hg' hbw.size
   clear hq hq' c0 c1 c2 c3 d0 d1 d2 d3 HA HB HL HL'
   have hlt' : (k : Int) < n := by omega
   go_wp2
   go_region_held3 (fun w' => w'.cell? ⟨g, k * 4, none⟩ = some (.int .i64 q.t) ∧ w'.cell? ⟨g, k * 4 + 1, none⟩ = some (.int .i64 q.a) ∧ w'.cell? ⟨g, k * 4 + 2, none⟩ = some (.int .i64 q.b) ∧ w'.cell? ⟨g, k * 4 + 3, none⟩ = some (.int .i64 q.c) ∧ w'.cell? ⟨g', k * 4, none⟩ = some (.int .i64 q.t) ∧ w'.cell? ⟨g', k * 4 + 1, none⟩ = some (.int .i64 q.a) ∧ w'.cell? ⟨g', k * 4 + 2, none⟩ = some (.int .i64 q.b) ∧ w'.cell? ⟨g', k * 4 + 3, none⟩ = some (.int .i64 q.c)) (simp [go_sem, *, World.cell?_alloc_some, World.cell?_setCell_far, Nat.lt_add_right, Nat.ne_of_gt]) (first | (go_at_call 187; refine (eqNode_any q _).mono ?_; rintro e w1 ⟨rfl, hb1⟩; have hk0 := fun o => hb1.cell (p := ⟨g, o, none⟩) (by simpa using hgr); have hk1 := fun o => hb1.cell (p := ⟨g', o, none⟩) (by simpa using hgr')))
   all_goals go_wp2
   all_goals exact ⟨⟨k + 1, by omega, by go_num, hbw.drew.trans (hb1.mono (by simpa using hbw.size))⟩, by simp [intOf]; omega⟩
  ·go_wp2
   go_ret
   exact ⟨rfl, hbw⟩
def imarks (k0 : Int) (m : Nat) : List Value := (List.range m).map fun (j : Nat) => .int .i64 (k0 + (j : Int))
theorem imarks_get {k0 : Int} {m j : Nat} (h : j < m) : (imarks k0 m)[j]? = some (.int .i64 (k0 + (j : Int))) := by simp [imarks, h]
def Wr (w : World) (lo : Nat) (A : Option Addr) (m : Nat) (e : TypeId) : Prop := 0 < m → ∃ g cur, A = some ⟨g, 0, none⟩ ∧ lo ≤ g ∧ w.heap[g]? = some (.cells cur e (0, 0)) ∧ m ≤ cur.size
theorem zAf {w : World} {g : Nat} {o : Obj} (h : w.heap[g]? = some o) : g < w.heap.size := by
 rcases Nat.lt_or_ge g w.heap.size with h' | h'
 ·exact h'
 ·rw [Array.getElem?_eq_none h'] at h; cases h
theorem zAq {w : World} {g i : Nat} {cur : Array Value} {e : TypeId} {fr : Nat × Nat} {v : Value} (h : w.heap[g]? = some (.cells cur e fr)) :
  (w.setCell ⟨g, i, none⟩ v).heap[g]? = some (.cells (cur.setIfInBounds i v) e fr) := by
 simp [World.setCell, Array.getElem?_modify, h]
theorem zAp {w : World} {g i : Nat} {cur : Array Value} {e : TypeId} {fr : Nat × Nat} (h : w.heap[g]? = some (.cells cur e fr)) (hi : i < cur.size) : ∃ v, w.cell? ⟨g, i, none⟩ = some v := by
 refine ⟨cur[i], ?_⟩
 simp [World.cell?, h, hi]
theorem zAs {w : World} {g i : Nat} {cur : Array Value} {e : TypeId} (h : w.heap[g]? = some (.cells cur e (0, 0))) : w.frozen? ⟨g, i, none⟩ = false := by simp [World.frozen?, h]
theorem rd_of_heap {w : World} {A : Option Addr} {n size : Nat} {k0 : Int} (h : 0 < n * size → ∃ g cur e fr, A = some ⟨g, 0, none⟩ ∧ w.heap[g]? = some (.cells cur e fr) ∧ ∀ j, j < n * size → cur[j]? = some (.int .i64 (k0 + j))) (hs : 0 < size) : Rd w A n size (imarks k0 (n * size)) := by
 refine ⟨by simp [imarks], fun hn => ?_⟩
 obtain ⟨g, cur, e, fr, hA, hh, hc⟩ := h (Nat.mul_pos hn hs)
 refine ⟨g, hA, fun j u hj => ?_⟩
 have hjn : j < n * size := by
  have := (List.getElem?_eq_some_iff.1 hj).1
  simpa [imarks] using this
 rw [imarks_get hjn] at hj
 simp only [World.cell?, hh]
 simpa using (hc j hjn).trans hj
theorem Rd.mk_at {w : World} {A : Option Addr} {n size : Nat} {k0 : Int} (h : Rd w A n size (imarks k0 (n * size))) {k : Nat} (hk : k < n) : ∃ g, A = some ⟨g, 0, none⟩ ∧ ∀ j, j < n * size → w.cell? ⟨g, j, none⟩ = some (.int .i64 (k0 + (j : Int))) := by
 obtain ⟨g, rfl, hc⟩ := h.2 (by omega)
 exact ⟨g, rfl, fun j hj => hc j _ (imarks_get hj)⟩
set_option maxHeartbeats 1000000 in
theorem heldInt_any (A : Option Addr) (n c : Nat) (k0 : Int) (w : World) (hn : n ≤ 1048577) (hk0 : 0 ≤ k0) (hk1 : k0 ≤ 1099511627776) (hr : Rd w A n 1 (imarks k0 (n * 1))) :
  Calls Tryz.prog 130 #[.slice A n c, .int .i64 k0] w fun e w' => e = .returned (.int .i64 (k0 + (n : Int))) ∧ w = w' := by
 have hm : n ≤ 9223372036854775807 := by omega
 have hkm : k0 + (n : Int) ≤ 9223372036854775800 := by omega
 have HR := Lib.hid hr
 clear hn hk1 hr
 go_enter Tryz.func130, Tryz.ntmps130
 go_wp2
 go_loop [1, 5] (fun q i => ∃ k : Nat, k ≤ n ∧ i = .int .i64 k ∧ q = .int .i64 (k0 + (k : Int))) (fun _ i => n - (intOf i).toNat)
 case atStart => exact ⟨0, Nat.zero_le _, rfl, by simp⟩
 case round =>
  obtain ⟨k, hk, rfl, rfl⟩ := hrel
  by_cases hlt : k < n
  ·obtain ⟨g, rfl, hc⟩ := HR.out.mk_at hlt
   have c0 : w.cell? ⟨g, k, none⟩ = some (.int .i64 (k0 + (k : Int))) := (hc _ (by omega)).trans (congrArg (fun z => some (Value.int IntKind.i64 z)) (by omega))
   clear hc HR
   have hlt' : (k : Int) < n := by omega
   have hlt2 : k0 + (k : Int) + 1 ≤ 9223372036854775807 := by omega
   have hlt3 : 0 ≤ k0 + (k : Int) := by omega
   go_wp2
   exact ⟨⟨k + 1, by omega, by go_num, congrArg (Value.int IntKind.i64) (by omega)⟩, by simp [intOf]; omega⟩
  ·obtain rfl : k = n := by omega
   go_wp2
   go_ret
   exact ⟨rfl, rfl⟩
set_option maxHeartbeats 1000000 in
theorem heldNode_any (A : Option Addr) (n c : Nat) (k0 : Int) (w : World) (hn : n ≤ 1048577) (hk0 : 0 ≤ k0) (hk1 : k0 ≤ 1099511627776) (hr : Rd w A n 4 (imarks k0 (n * 4))) :
  Calls Tryz.prog 183 #[.slice A n c, .int .i64 k0] w fun e w' => e = .returned (.int .i64 (k0 + 4 * (n : Int))) ∧ w = w' := by
 have hm : n ≤ 9223372036854775807 := by omega
 have hkm : k0 + 4 * (n : Int) ≤ 9223372036854775800 := by omega
 have HR := Lib.hid hr
 clear hn hk1 hr
 go_enter Tryz.func183, Tryz.ntmps183
 go_wp2
 go_loop [1, 5] (fun q i => ∃ k : Nat, k ≤ n ∧ i = .int .i64 k ∧ q = .int .i64 (k0 + 4 * (k : Int))) (fun _ i => n - (intOf i).toNat)
 case atStart => exact ⟨0, Nat.zero_le _, rfl, by simp⟩
 case round =>
  obtain ⟨k, hk, rfl, rfl⟩ := hrel
  by_cases hlt : k < n
  ·obtain ⟨g, rfl, hc⟩ := HR.out.mk_at hlt
   have c0 : w.cell? ⟨g, k * 4, none⟩ = some (.int .i64 (k0 + 4 * (k : Int))) := (hc _ (by omega)).trans (congrArg (fun z => some (Value.int IntKind.i64 z)) (by omega))
   have c1 : w.cell? ⟨g, k * 4 + 1, none⟩ = some (.int .i64 (k0 + 4 * (k : Int) + 1)) := (hc _ (by omega)).trans (congrArg (fun z => some (Value.int IntKind.i64 z)) (by omega))
   have c2 : w.cell? ⟨g, k * 4 + 2, none⟩ = some (.int .i64 (k0 + 4 * (k : Int) + 1 + 1)) := (hc _ (by omega)).trans (congrArg (fun z => some (Value.int IntKind.i64 z)) (by omega))
   have c3 : w.cell? ⟨g, k * 4 + 3, none⟩ = some (.int .i64 (k0 + 4 * (k : Int) + 1 + 1 + 1)) := (hc _ (by omega)).trans (congrArg (fun z => some (Value.int IntKind.i64 z)) (by omega))
   clear hc HR
   have hlt' : (k : Int) < n := by omega
   have hlt2 : k0 + 4 * (k : Int) + 4 ≤ 9223372036854775807 := by omega
   have hlt3 : 0 ≤ k0 + 4 * (k : Int) := by omega
   go_wp2
   exact ⟨⟨k + 1, by omega, by go_num, congrArg (Value.int IntKind.i64) (by omega)⟩, by simp [intOf]; omega⟩
  ·obtain rfl : k = n := by omega
   go_wp2
   go_ret
   exact ⟨rfl, rfl⟩
def RdE (w : World) (A : Option Addr) (n : Nat) (ps : List Q) : Prop :=
 ps.length = n ∧ (0 < n → ∃ b off, A = some ⟨b, off, none⟩ ∧ b < w.heap.size ∧ ∀ (k : Nat) q, ps[k]? = some q →
  w.cell? ⟨b, off + k * 4, none⟩ = some (.int .i64 q.t) ∧ w.cell? ⟨b, off + k * 4 + 1, none⟩ = some (.int .i64 q.a) ∧ w.cell? ⟨b, off + k * 4 + 2, none⟩ = some (.int .i64 q.b) ∧ w.cell? ⟨b, off + k * 4 + 3, none⟩ = some (.int .i64 q.c))
theorem RdE.below {w w' : World} {A : Option Addr} {n : Nat} {ps : List Q} (h : RdE w A n ps) (hb : Below w.heap.size w w') : RdE w' A n ps :=
 ⟨h.1, fun hn => by
  obtain ⟨b, off, rfl, hl, hc⟩ := h.2 hn
  refine ⟨b, off, rfl, Nat.lt_of_lt_of_le hl hb.size, fun k q hq => ?_⟩
  obtain ⟨h1, h2, h3, h4⟩ := hc k q hq
  exact ⟨(hb.cell (p := ⟨b, _, none⟩) hl).trans h1, (hb.cell (p := ⟨b, _, none⟩) hl).trans h2, (hb.cell (p := ⟨b, _, none⟩) hl).trans h3, (hb.cell (p := ⟨b, _, none⟩) hl).trans h4⟩⟩
theorem infoPt : (Tryz.prog.info? 177).map (fun i => (i.zero, i.size, i.bytes)) = some (some (.agg #[.int .i64 0, .int .i64 0, .int .i64 0, .int .i64 0]), 4, 32) := by kernel_rfl
theorem toVec_int (x y z : Int) (w : World) : Calls Tryz.prog 40 #[.agg #[.int .i64 x, .int .i64 y, .int .i64 z]] w fun e w' => e = .returned (.agg #[.int .i64 x, .int .i64 y, .int .i64 z]) ∧ Below w.heap.size w w' := toVec_raw x y z w
theorem below_setCells {B : Nat} {w : World} (b : Nat) (hB : B ≤ b) : ∀ (vs : List Value) (o : Nat) (w' : World), Below B w w' → Below B w (w'.setCells b o vs)
 | [], _, _, h => h
 | v :: vs, o, w', h => below_setCells b hB vs (o + 1) (w'.setCell ⟨b, o, none⟩ v) (h.setCell hB v)
theorem infoNode : (Tryz.prog.info? 199).map (fun i => (i.zero, i.size, i.bytes)) = some (some (.agg #[.int .i64 0, .int .i64 0, .int .i64 0, .int .i64 0]), 4, 32) := by kernel_rfl
set_option maxHeartbeats 1000000 in
theorem toNode_any (q : Q) (w : World) :
  Calls Tryz.prog 185 #[.agg #[.int .i64 q.t, .int .i64 q.a, .int .i64 q.b, .int .i64 q.c]] w fun e w' => e = .returned (.agg #[.int .i64 q.t, .int .i64 q.a, .int .i64 q.b, .int .i64 q.c]) ∧ Below w.heap.size w w' := by
 go_enter Tryz.func185, Tryz.ntmps185
 go_upto_region 3 with (go_at_call 40; refine (toVec_int _ _ _ _).mono ?_; rintro e w1 ⟨rfl, hb1⟩; obtain ⟨hc1, hf1⟩ := bcell hb1; have hs1 := hb1.size; (try simp at hs1); have hy10 : w.heap.size < w1.heap.size := (by omega); have hk10 := fun o => hc1 (w.heap.size) o zOm; have hg10 := fun o => hf1 (w.heap.size) o zOm; have hy11 : w.heap.size + 1 < w1.heap.size := (by omega); have hk11 := fun o => hc1 (w.heap.size + 1) o zOm; have hg11 := fun o => hf1 (w.heap.size + 1) o zOm; have hy12 : w.heap.size + 1 + 1 < w1.heap.size := (by omega); have hk12 := fun o => hc1 (w.heap.size + 1 + 1) o zOm; have hg12 := fun o => hf1 (w.heap.size + 1 + 1) o zOm; clear hc1 hf1)
 go_cut [] (fun wr => (wr.cell? ⟨w.heap.size + 1 + 1, 0, none⟩ = some (.int .i64 q.t) ∧ wr.cell? ⟨w.heap.size + 1 + 1, 1, none⟩ = some (.int .i64 q.a) ∧ wr.cell? ⟨w.heap.size + 1 + 1, 2, none⟩ = some (.int .i64 q.b) ∧ wr.cell? ⟨w.heap.size + 1 + 1, 3, none⟩ = some (.int .i64 q.c)) ∧ (∀ k, k < 4 → (wr.cell? ⟨w.heap.size + 1, k, none⟩).isSome = true) ∧ (∀ k, wr.frozen? ⟨w.heap.size + 1, k, none⟩ = false) ∧ Below w.heap.size w wr)
 case first =>
  go_wp2_with (go_at_call 40; refine (toVec_int _ _ _ _).mono ?_; rintro e w1 ⟨rfl, hb1⟩; obtain ⟨hc1, hf1⟩ := bcell hb1; have hs1 := hb1.size; (try simp at hs1); have hy10 : w.heap.size < w1.heap.size := (by omega); have hk10 := fun o => hc1 (w.heap.size) o zOm; have hg10 := fun o => hf1 (w.heap.size) o zOm; have hy11 : w.heap.size + 1 < w1.heap.size := (by omega); have hk11 := fun o => hc1 (w.heap.size + 1) o zOm; have hg11 := fun o => hf1 (w.heap.size + 1) o zOm; have hy12 : w.heap.size + 1 + 1 < w1.heap.size := (by omega); have hk12 := fun o => hc1 (w.heap.size + 1 + 1) o zOm; have hg12 := fun o => hf1 (w.heap.size + 1 + 1) o zOm; clear hc1 hf1)
  go_meet
  case rel =>
   refine ⟨by simp [go_sem, *], ?_, ?_, (by repeat (first | exact Below.refl _ _ | (refine zAc ?_ (zAa _ _)) | (refine zAc ?_ (by assumption)) | (refine Below.setCell ?_ (by simp <;> omega) _) | refine Below.drew ?_))⟩
   ·intro k hk
    match k, hk with
    | 0, _ | 1, _ | 2, _ | 3, _ => simp [go_sem, *]
   ·intro k
    simp [go_sem, *]
 case rest =>
  obtain ⟨⟨c0, c1, c2, c3⟩, he, hf, hb⟩ := hcut
  have hE := Lib.hid he
  have e0 := he 0 (by omega); have e1 := he 1 (by omega); have e2 := he 2 (by omega); have e3 := he 3 (by omega);
  obtain ⟨o0, e0⟩ := Option.isSome_iff_exists.1 e0; obtain ⟨o1, e1⟩ := Option.isSome_iff_exists.1 e1; obtain ⟨o2, e2⟩ := Option.isSome_iff_exists.1 e2; obtain ⟨o3, e3⟩ := Option.isSome_iff_exists.1 e3;
  clear he
  go_wp2
  have hin := World.cell?_setCells_in (w.heap.size + 1) ([.int .i64 q.t, .int .i64 q.a, .int .i64 q.b, .int .i64 q.c] : List Value) 0 wc (fun k hk => by simpa using hE.out k (by simpa using hk))
  have hbw := below_setCells (w.heap.size + 1) (by omega) ([.int .i64 q.t, .int .i64 q.a, .int .i64 q.b, .int .i64 q.c] : List Value) 0 wc hb
  change bodyPost _ _ _ _ _ (wc.setCells (w.heap.size + 1) 0 ([.int .i64 q.t, .int .i64 q.a, .int .i64 q.b, .int .i64 q.c] : List Value))
  have f0 := hin 0 (by simp); have f1 := hin 1 (by simp); have f2 := hin 2 (by simp); have f3 := hin 3 (by simp);
  generalize wc.setCells (w.heap.size + 1) 0 ([.int .i64 q.t, .int .i64 q.a, .int .i64 q.b, .int .i64 q.c] : List Value) = W at *
  simp only [Nat.zero_add, zga, zgb, Nat.reduceAdd] at f0 f1 f2 f3
  clear hin hE
  exact bodyPost_ret (v := .agg #[.int .i64 q.t, .int .i64 q.a, .int .i64 q.b, .int .i64 q.c]) (by simp [results, Tryz.results185, go_sem, f0, f1, f2, f3]) rfl ⟨rfl, hbw⟩
set_option maxHeartbeats 4000000 in
theorem toNodeS_any (A : Option Addr) (n c : Nat) (ps : List Q) (w : World) (hn : n ≤ 1048576) (hr : RdE w A n ps) :
  Calls Tryz.prog 119 #[.slice A n c] w fun e w' => ∃ v, e = .returned v ∧ w'.ownsRow w.heap.size 199 4 v n (flat ps) ∧ Below w.heap.size w w' := by
 obtain ⟨i0, hi, hz0, hz1, hz2⟩ := info_parts infoNode
 have hm : n ≤ 9223372036854775807 := by omega
 have HN := Lib.hid hn
 have HR := Lib.hid hr
 clear hn hr
 go_enter Tryz.func119, Tryz.ntmps119
 go_wp2_with (at_make; refine wpList_make_full _ rfl _ _ 24 rfl w.heap.size 199 i0 (.agg #[.int .i64 0, .int .i64 0, .int .i64 0, .int .i64 0]) 4 Tryz.underlying24 hi hz0 hz1 .i64 .i64 _ _ n rfl rfl rfl rfl (by rw [hz2]; have := HN.out; omega) (by unfold maxLen; have := HN.out; omega) (Nat.le_refl _) ?_; intro w0 hown0 hgrow0)
 have hb0 : Below w.heap.size w w0 := (Below.refl _ _).grown hgrow0 (Nat.le_refl _) (fun k hk => by cases hk)
 obtain ⟨cur0, hh0, hsz0⟩ : ∃ cur, w0.heap[w.heap.size]? = some (.cells cur 199 (0, 0)) ∧ cur.size = n * 4 := by
  rcases hown0.2 with ⟨h, _⟩ | ⟨g, cap, cur, hv, _, hh, h1, h2, h3, _⟩
  ·cases h
  ·injection hv with a1 a2 a3
   injection a1 with a1
   injection a1 with a1
   subst a1 a3
   exact ⟨cur, hh, h3⟩
 clear hown0 hgrow0
 go_wp2
 go_loopw [4] (fun i wr => ∃ k : Nat, k ≤ n ∧ i = .int .i64 k ∧ Below w.heap.size w wr ∧ ∃ cur, wr.heap[w.heap.size]? = some (.cells cur 199 (0, 0)) ∧ cur.size = n * 4 ∧ ∀ j, j < k * 4 → cur[j]? = (flat ps)[j]?) (fun i _ => n - (intOf i).toNat)
 case atStart => exact ⟨0, Nat.zero_le _, rfl, hb0, cur0, hh0, hsz0, fun j hj => absurd hj (by omega)⟩
 case round =>
  obtain ⟨k, hk, rfl, hbw, cur, hh, hsz, hm2⟩ := hrel
  clear hb0 hh0 hsz0
  by_cases hlt : k < n
  ·obtain ⟨b, off, rfl, hbl, hc⟩ := HR.out.2 (by omega)
   have hl : k < ps.length := by have := HR.out.1; omega
   have hq : ps[k]? = some ps[k] := zgh hl
   generalize ps[k] = q at hq
   obtain ⟨d0, d1, d2, d3⟩ := hc k q hq
   have c0 := (hbw.cell (p := ⟨b, off + k * 4, none⟩) hbl).trans d0
   have c1 := (hbw.cell (p := ⟨b, off + k * 4 + 1, none⟩) hbl).trans d1
   have c2 := (hbw.cell (p := ⟨b, off + k * 4 + 2, none⟩) hbl).trans d2
   have c3 := (hbw.cell (p := ⟨b, off + k * 4 + 3, none⟩) hbl).trans d3
   have HQ := Lib.hid hq
   have HM := Lib.hid hm2
   have HH := Lib.hid hh
   have HZ := Lib.hid hsz
   clear hc d0 d1 d2 d3 hq hm2 hh hsz
   have hlt' : (k : Int) < n := by omega
   go_wp2_with fail
   refine (toNode_any q _).mono ?_
   rintro e w1 ⟨rfl, hb1⟩
   have hh1 : w1.heap[w.heap.size]? = some (.cells cur 199 (0, 0)) := (hb1.block _ (zAf HH.out)).trans HH.out
   obtain ⟨o0, ho0⟩ := zAp (i := k * 4) hh1 (by have := HZ.out; omega)
   obtain ⟨o1, ho1⟩ := zAp (i := k * 4 + 1) hh1 (by have := HZ.out; omega)
   obtain ⟨o2, ho2⟩ := zAp (i := k * 4 + 2) hh1 (by have := HZ.out; omega)
   obtain ⟨o3, ho3⟩ := zAp (i := k * 4 + 3) hh1 (by have := HZ.out; omega)
   have hf0 := zAs (i := k * 4) hh1
   have hf1 := zAs (i := k * 4 + 1) hh1
   have hf2 := zAs (i := k * 4 + 2) hh1
   have hf3 := zAs (i := k * 4 + 3) hh1
   have HH1 := Lib.hid hh1
   clear hh1
   go_wp2
   refine ⟨⟨k + 1, by omega, by go_num, ((((zAc hbw hb1).setCell (Nat.le_refl _) _).setCell (Nat.le_refl _) _).setCell (Nat.le_refl _) _).setCell (Nat.le_refl _) _, _, zAq (zAq (zAq (zAq HH1.out))), by simpa using HZ.out, ?_⟩, by simp [intOf]; omega⟩
   intro j hj
   have HM' := HM.out j
   have hz := HZ.out
   have g0 := flat_get ps k 0 q HQ.out (by omega)
   have g1 := flat_get ps k 1 q HQ.out (by omega)
   have g2 := flat_get ps k 2 q HQ.out (by omega)
   have g3 := flat_get ps k 3 q HQ.out (by omega)
   simp only [Q.cells] at g0 g1 g2 g3
   by_cases hj0 : j < k * 4
   ·simp only [Array.getElem?_setIfInBounds]
    rw [if_neg (by omega), if_neg (by omega), if_neg (by omega), if_neg (by omega)]
    exact HM' hj0
   ·have hj' : j = k * 4 ∨ j = k * 4 + 1 ∨ j = k * 4 + 2 ∨ j = k * 4 + 3 := by omega
    simp only [Array.getElem?_setIfInBounds, Array.size_setIfInBounds]
    rcases hj' with rfl | rfl | rfl | rfl
    ·rw [show (flat ps)[k * 4]? = _ from g0]
     rw [if_neg (by omega), if_neg (by omega), if_neg (by omega), if_pos rfl, if_pos (by omega)]
     rfl
    ·rw [show (flat ps)[k * 4 + 1]? = _ from g1]
     rw [if_neg (by omega), if_neg (by omega), if_pos rfl, if_pos (by omega)]
     rfl
    ·rw [show (flat ps)[k * 4 + 2]? = _ from g2]
     rw [if_neg (by omega), if_pos rfl, if_pos (by omega)]
     rfl
    ·rw [show (flat ps)[k * 4 + 3]? = _ from g3]
     rw [if_pos rfl, if_pos (by omega)]
     rfl
  ·obtain rfl : k = n := by omega
   go_wp2
   go_ret
   refine ⟨_, rfl, ⟨by rw [flat_len, HR.out.1], Or.inr ⟨w.heap.size, k, cur, rfl, Nat.le_refl _, hh, Nat.le_refl _, by unfold maxLen; have := HN.out; omega, hsz, ?_⟩⟩, hbw⟩
   apply List.ext_getElem?
   intro j
   by_cases hj : j < k * 4
   ·rw [List.getElem?_take, if_pos hj, ← hm2 j hj]
    simp
   ·rw [List.getElem?_eq_none (by simp; omega), List.getElem?_eq_none (by rw [flat_len, HR.out.1]; omega)]
def szOf (left : Int) (n : Nat) : Int := if (n : Int) ≤ left then left - n else -1
theorem zAn {w : World} {lo lo' : Nat} {e : TypeId} {size : Nat} {v : Value} {n : Nat} {xs : List Value} (h : w.ownsRow lo e size v n xs) (hl : lo' ≤ lo) : w.ownsRow lo' e size v n xs := by
 rcases h with ⟨h1, h2 | ⟨g, cap, cur, hv, hg, r⟩⟩
 ·exact ⟨h1, Or.inl h2⟩
 ·exact ⟨h1, Or.inr ⟨g, cap, cur, hv, by omega, r⟩⟩
end Go.Proofs.YtnphjhbfpoekpaaGreat
namespace Go.Proofs.YtnphjhbfpoekpaaGreat
set_option linter.unusedSimpArgs false
set_option linter.unusedVariables false
set_option linter.unnecessarySimpa false
open Go.ChangeShapes Go.WideShapes Go.ChangeAt Go.RowKit Go.Deep
def qsOf (n : Nat) (z : Nat → Nat → Int) : List Q := (List.range n).map fun i => ⟨z i 0, z i 1, z i 2, z i 3⟩
theorem rdE_of {w : World} {A : Option Addr} {n : Nat} {z : Nat → Nat → Int} (h : 0 < n → ∃ b off, A = some ⟨b, off, none⟩ ∧ b < w.heap.size ∧
   ∀ i j, i < n → j < 4 → w.cell? ⟨b, off + i * 4 + j, none⟩ = some (.int .i64 (z i j))) : RdE w A n (qsOf n z) := by
 refine ⟨by simp [qsOf], fun hn => ?_⟩
 obtain ⟨b, off, rfl, hb, hc⟩ := h hn
 refine ⟨b, off, rfl, hb, fun k q hq => ?_⟩
 have hk : k < n := by
  have := (List.getElem?_eq_some_iff.1 hq).1
  simpa [qsOf] using this
 unfold qsOf at hq
 rw [List.getElem?_map, List.getElem?_range hk] at hq
 simp only [Option.map_some, Option.some.injEq] at hq
 subst hq
 exact ⟨hc k 0 hk (by omega), hc k 1 hk (by omega), hc k 2 hk (by omega), hc k 3 hk (by omega)⟩
theorem own_blk {w : World} {lo : Nat} {e : TypeId} {size : Nat} {A : Option Addr} {n c : Nat} {xs : List Value} (h : w.ownsRow lo e size (.slice A n c) n xs) : ∀ g, A = some ⟨g, 0, none⟩ → g < w.heap.size := by
 intro g hg
 exact own_lt h g (by rw [hg]; rfl)
theorem Rd.below {w w' : World} {A : Option Addr} {n size : Nat} {xs : List Value} (h : Rd w A n size xs) (hl : ∀ g, A = some ⟨g, 0, none⟩ → g < w.heap.size) (hb : Below w.heap.size w w') : Rd w' A n size xs :=
 ⟨h.1, fun hn => by
  obtain ⟨g, rfl, hc⟩ := h.2 hn
  exact ⟨g, rfl, fun j u hj => (hb.cell (p := ⟨g, j, none⟩) (hl g rfl)).trans (hc j u hj)⟩⟩
theorem zAi {w w' : World} {A : Option Addr} (hl : ∀ g, A = some ⟨g, 0, none⟩ → g < w.heap.size) (hb : Below w.heap.size w w') : ∀ g, A = some ⟨g, 0, none⟩ → g < w'.heap.size :=
 fun g hg => Nat.lt_of_lt_of_le (hl g hg) hb.size
structure Fr (S : Nat → Prop) (w w' : World) : Prop where
 os : w'.os = w.os
 tape : w'.tape = w.tape
 output : w'.output = w.output
 size : w.heap.size ≤ w'.heap.size
 block : ∀ k, k < w.heap.size → ¬ S k → w'.heap[k]? = w.heap[k]?
theorem Fr.refl (S : Nat → Prop) (w : World) : Fr S w w := ⟨rfl, rfl, rfl, Nat.le_refl _, fun _ _ _ => rfl⟩
theorem Fr.trans {S : Nat → Prop} {a b c : World} (h : Fr S a b) (k : Fr S b c) : Fr S a c :=
 ⟨k.os.trans h.os, k.tape.trans h.tape, k.output.trans h.output, Nat.le_trans h.size k.size, fun i hi hn => (k.block i (Nat.lt_of_lt_of_le hi h.size) hn).trans (h.block i hi hn)⟩
theorem Fr.of_below (S : Nat → Prop) {w w' : World} (h : Below w.heap.size w w') : Fr S w w' := ⟨h.os, h.tape, h.output, h.size, fun k hk _ => h.block k hk⟩
theorem Fr.step {S : Nat → Prop} {a w w' : World} (h : Fr S a w) (h' : Below w.heap.size w w') : Fr S a w' := h.trans (.of_below S h')
theorem Fr.mono {S T : Nat → Prop} {w w' : World} (h : Fr S w w') (hS : ∀ k, S k → T k) : Fr T w w' := ⟨h.os, h.tape, h.output, h.size, fun k hk hn => h.block k hk fun hs => hn (hS k hs)⟩
theorem Fr.below {S : Nat → Prop} {lo : Nat} {w w' : World} (h : Fr S w w') (hS : ∀ k, S k → lo ≤ k) (hlo : lo ≤ w.heap.size) : Below lo w w' :=
 ⟨h.os, h.tape, h.output, h.size, fun k hk => h.block k (Nat.lt_of_lt_of_le hk hlo) fun hs => absurd (hS k hs) (by omega)⟩
theorem Fr.cell {S : Nat → Prop} {w w' : World} (h : Fr S w w') {b : Nat} (hb : b < w.heap.size) (hn : ¬ S b) (o : Nat) : w'.cell? ⟨b, o, none⟩ = w.cell? ⟨b, o, none⟩ := World.cell?_of_block (w := w) (h.block b hb hn)
theorem Fr.frozen {S : Nat → Prop} {w w' : World} (h : Fr S w w') {b : Nat} (hb : b < w.heap.size) (hn : ¬ S b) (o : Nat) : w'.frozen? ⟨b, o, none⟩ = w.frozen? ⟨b, o, none⟩ := World.frozen?_of_block (w := w) (h.block b hb hn)
theorem Fr.setCell {S : Nat → Prop} {a w : World} (h : Fr S a w) {p : Addr} (hp : S p.block ∨ a.heap.size ≤ p.block) (u : Value) : Fr S a (w.setCell p u) := by
 refine ⟨h.os, h.tape, h.output, by simpa using h.size, fun k hk hn => ?_⟩
 rw [Below.heap_setCell w p u k (fun e => by
  subst e
  rcases hp with hp | hp
  ·exact hn hp
  ·omega)]
 exact h.block k hk hn
theorem Fr.drew {S : Nat → Prop} {a w : World} (h : Fr S a w) : Fr S a w.drew := ⟨h.os, h.tape, h.output, h.size, h.block⟩
theorem Fr.alloc {S : Nat → Prop} {a w : World} (h : Fr S a w) (o : Obj) : Fr S a (w.alloc o) := h.step (zAa w o)
def atB (A : Option Addr) (k : Nat) : Prop := ∃ o, A = some ⟨k, o, none⟩
theorem own_wr2 {w : World} {lo : Nat} {e : TypeId} {size : Nat} {A : Option Addr} {n c : Nat} {xs : List Value} (h : w.ownsRow lo e size (.slice A n c) n xs) : Wr w lo A (n * size) e := by
 rcases h with ⟨_, ⟨_, rfl⟩ | ⟨g, cap, cur, hv, hg, hh, h1, _, h3, _⟩⟩
 ·intro h; simp at h
 ·intro _
  injection hv with a1
  exact ⟨g, cur, a1, hg, hh, by rw [h3]; exact Nat.mul_le_mul_right _ h1⟩
theorem own_rng {w : World} {lo : Nat} {e : TypeId} {size : Nat} {A : Option Addr} {n c : Nat} {xs : List Value} (h : w.ownsRow lo e size (.slice A n c) n xs) : ∀ k, atB A k → lo ≤ k ∧ k < w.heap.size := by
 intro k hk
 obtain ⟨o, hA⟩ := hk
 rcases h with ⟨_, ⟨hv, _⟩ | ⟨g, cap, cur, hv, hg, hh, _⟩⟩
 ·injection hv with a1; rw [a1] at hA; cases hA
 ·injection hv with a1
  rw [a1] at hA
  injection hA with hA
  injection hA with h1
  subst h1
  exact ⟨hg, zAf hh⟩
theorem Wr.below {w w' : World} {lo : Nat} {A : Option Addr} {m : Nat} {e : TypeId} (h : Wr w lo A m e) (hb : Below w.heap.size w w') : Wr w' lo A m e := fun hm => by
 obtain ⟨g, cur, hA, hg, hh, hs⟩ := h hm
 exact ⟨g, cur, hA, hg, (hb.block g (zAf hh)).trans hh, hs⟩
theorem Wr.fr {S : Nat → Prop} {w w' : World} {lo : Nat} {A : Option Addr} {m : Nat} {e : TypeId} (h : Wr w lo A m e) (hb : Fr S w w') (hn : ∀ k, atB A k → ¬ S k) : Wr w' lo A m e := fun hm => by
 obtain ⟨g, cur, hA, hg, hh, hs⟩ := h hm
 exact ⟨g, cur, hA, hg, (hb.block g (zAf hh) (hn g ⟨0, hA⟩)).trans hh, hs⟩
theorem Rd.fr {S : Nat → Prop} {w w' : World} {A : Option Addr} {n size : Nat} {xs : List Value} (h : Rd w A n size xs) (hl : ∀ g, A = some ⟨g, 0, none⟩ → g < w.heap.size) (hb : Fr S w w') (hn : ∀ k, atB A k → ¬ S k) : Rd w' A n size xs :=
 ⟨h.1, fun h0 => by
  obtain ⟨g, rfl, hc⟩ := h.2 h0
  exact ⟨g, rfl, fun j u hj => (hb.cell (hl g rfl) (hn g ⟨0, rfl⟩) j).trans (hc j u hj)⟩⟩
theorem lt_fr {S : Nat → Prop} {w w' : World} {A : Option Addr} (hl : ∀ g, A = some ⟨g, 0, none⟩ → g < w.heap.size) (hb : Fr S w w') : ∀ g, A = some ⟨g, 0, none⟩ → g < w'.heap.size :=
 fun g hg => Nat.lt_of_lt_of_le (hl g hg) hb.size
theorem below_eqN {w w' : World} {k : Nat} (h : w' = w.drewN k) : Below w.heap.size w w' := by rw [h]; exact zAd w k
theorem below_same {w w' : World} (h : w = w') : Below w.heap.size w w' := by rw [← h]; exact Below.refl _ _
set_option maxHeartbeats 1000000 in
theorem markIntF (A : Option Addr) (n c lo : Nat) (k0 : Int) (w : World) (hn : n ≤ 1048577) (hk0 : 0 ≤ k0) (hk1 : k0 ≤ 1099511627776) (hw : Wr w lo A (n * 1) 3) :
  Calls Tryz.prog 123 #[.slice A n c, .int .i64 k0] w fun e w' => e = .returned (.int .i64 (k0 + 1 * (n : Int))) ∧ Rd w' A n 1 (imarks k0 (n * 1)) ∧ Fr (atB A) w w' := by
 have hm : n ≤ 9223372036854775807 := by omega
 have hkm : k0 + 1 * (n : Int) ≤ 9223372036854775800 := by omega
 have HW := Lib.hid hw
 clear hn hk1 hw
 go_enter Tryz.func123, Tryz.ntmps123
 go_wp2
 go_loopw [1, 5] (fun q i wr => ∃ k : Nat, k ≤ n ∧ i = .int .i64 k ∧ q = .int .i64 (k0 + 1 * (k : Int)) ∧ Fr (atB A) w wr ∧ (0 < n * 1 → ∃ g cur, A = some ⟨g, 0, none⟩ ∧ wr.heap[g]? = some (.cells cur 3 (0, 0)) ∧ n * 1 ≤ cur.size ∧ ∀ j, j < k * 1 → cur[j]? = some (.int .i64 (k0 + j)))) (fun _ i _ => n - (intOf i).toNat)
 case atStart =>
  refine ⟨0, Nat.zero_le _, rfl, by simp, Fr.refl _ _, fun h => ?_⟩
  obtain ⟨g, cur, hA, hg, hh, hs⟩ := HW.out h
  exact ⟨g, cur, hA, hh, hs, fun j hj => absurd hj (by omega)⟩
 case round =>
  obtain ⟨k, hk, rfl, rfl, hb, hcur⟩ := hrel
  by_cases hlt : k < n
  ·obtain ⟨g, cur, rfl, hh, hs, hm2⟩ := hcur (by omega)
   obtain ⟨o0, ho0⟩ := zAp (i := k) hh (by omega)
   have hf0 := zAs (i := k) hh
   have HM := Lib.hid hm2
   have HH := Lib.hid hh
   clear hm2 hh hcur
   have hlt' : (k : Int) < n := by omega
   have hlt2 : k0 + 1 * (k : Int) + 1 ≤ 9223372036854775807 := by omega
   have hlt3 : 0 ≤ k0 + 1 * (k : Int) := by omega
   go_wp2
   refine ⟨⟨k + 1, by omega, by go_num, congrArg (Value.int IntKind.i64) (by omega), (hb.setCell (Or.inl ⟨0, rfl⟩) _), fun _ => ⟨g, _, rfl, (zAq HH.out), ?_, ?_⟩⟩, by simp [intOf]; omega⟩
   ·simpa using hs
   ·intro j hj
    simp only [Array.getElem?_setIfInBounds, Array.size_setIfInBounds]
    have HM' := HM.out j
    repeat' split
    all_goals first
     | omega
     | exact HM' (by omega)
     | exact congrArg (fun z => some (Value.int IntKind.i64 z)) (by omega)
  ·obtain rfl : k = n := by omega
   go_wp2
   go_ret
   refine ⟨rfl, rd_of_heap (fun h => ?_) (by omega), hb⟩
   obtain ⟨g, cur, hA, hh, hs, hm2⟩ := hcur h
   exact ⟨g, cur, _, _, hA, hh, hm2⟩
set_option maxHeartbeats 1000000 in
theorem markNodeF (A : Option Addr) (n c lo : Nat) (k0 : Int) (w : World) (hn : n ≤ 1048577) (hk0 : 0 ≤ k0) (hk1 : k0 ≤ 1099511627776) (hw : Wr w lo A (n * 4) 199) :
  Calls Tryz.prog 124 #[.slice A n c, .int .i64 k0] w fun e w' => e = .returned (.int .i64 (k0 + 4 * (n : Int))) ∧ Rd w' A n 4 (imarks k0 (n * 4)) ∧ Fr (atB A) w w' := by
 have hm : n ≤ 9223372036854775807 := by omega
 have hkm : k0 + 4 * (n : Int) ≤ 9223372036854775800 := by omega
 have HW := Lib.hid hw
 clear hn hk1 hw
 go_enter Tryz.func124, Tryz.ntmps124
 go_wp2
 go_loopw [1, 5] (fun q i wr => ∃ k : Nat, k ≤ n ∧ i = .int .i64 k ∧ q = .int .i64 (k0 + 4 * (k : Int)) ∧ Fr (atB A) w wr ∧ (0 < n * 4 → ∃ g cur, A = some ⟨g, 0, none⟩ ∧ wr.heap[g]? = some (.cells cur 199 (0, 0)) ∧ n * 4 ≤ cur.size ∧ ∀ j, j < k * 4 → cur[j]? = some (.int .i64 (k0 + j)))) (fun _ i _ => n - (intOf i).toNat)
 case atStart =>
  refine ⟨0, Nat.zero_le _, rfl, by simp, Fr.refl _ _, fun h => ?_⟩
  obtain ⟨g, cur, hA, hg, hh, hs⟩ := HW.out h
  exact ⟨g, cur, hA, hh, hs, fun j hj => absurd hj (by omega)⟩
 case round =>
  obtain ⟨k, hk, rfl, rfl, hb, hcur⟩ := hrel
  by_cases hlt : k < n
  ·obtain ⟨g, cur, rfl, hh, hs, hm2⟩ := hcur (by omega)
   obtain ⟨o0, ho0⟩ := zAp (i := k * 4) hh (by omega)
   have hf0 := zAs (i := k * 4) hh
   obtain ⟨o1, ho1⟩ := zAp (i := k * 4 + 1) hh (by omega)
   have hf1 := zAs (i := k * 4 + 1) hh
   obtain ⟨o2, ho2⟩ := zAp (i := k * 4 + 2) hh (by omega)
   have hf2 := zAs (i := k * 4 + 2) hh
   obtain ⟨o3, ho3⟩ := zAp (i := k * 4 + 3) hh (by omega)
   have hf3 := zAs (i := k * 4 + 3) hh
   have HM := Lib.hid hm2
   have HH := Lib.hid hh
   clear hm2 hh hcur
   have hlt' : (k : Int) < n := by omega
   have hlt2 : k0 + 4 * (k : Int) + 4 ≤ 9223372036854775807 := by omega
   have hlt3 : 0 ≤ k0 + 4 * (k : Int) := by omega
   go_wp2
   refine ⟨⟨k + 1, by omega, by go_num, congrArg (Value.int IntKind.i64) (by omega), ((((hb.setCell (Or.inl ⟨0, rfl⟩) _).setCell (Or.inl ⟨0, rfl⟩) _).setCell (Or.inl ⟨0, rfl⟩) _).setCell (Or.inl ⟨0, rfl⟩) _), fun _ => ⟨g, _, rfl, (zAq (zAq (zAq (zAq HH.out)))), ?_, ?_⟩⟩, by simp [intOf]; omega⟩
   ·simpa using hs
   ·intro j hj
    simp only [Array.getElem?_setIfInBounds, Array.size_setIfInBounds]
    have HM' := HM.out j
    repeat' split
    all_goals first
     | omega
     | exact HM' (by omega)
     | exact congrArg (fun z => some (Value.int IntKind.i64 z)) (by omega)
  ·obtain rfl : k = n := by omega
   go_wp2
   go_ret
   refine ⟨rfl, rd_of_heap (fun h => ?_) (by omega), hb⟩
   obtain ⟨g, cur, hA, hh, hs, hm2⟩ := hcur h
   exact ⟨g, cur, _, _, hA, hh, hm2⟩
theorem zAb {w : World} {b : Nat} {e : TypeId} {vs : Array Value} (h : w.heap[b]? = some (.cells vs e (0, 0))) (i : Nat) {u : Value} (hi : vs[i]? = some u) : w.cell? ⟨b, i, none⟩ = some u := by
 simp only [World.cell?, h]; exact hi
theorem zAh {w : World} {b : Nat} {e : TypeId} {vs : Array Value} (h : w.heap[b]? = some (.cells vs e (0, 0))) : ∀ o, w.frozen? ⟨b, o, none⟩ = false := fun _ => zAs h
theorem zAg {w w' : World} {b : Nat} {o : Obj} (h : w.heap[b]? = some o) (hb : Below w.heap.size w w') : w'.heap[b]? = some o := (hb.block b (zAf h)).trans h
theorem zAu {w : World} {b : Nat} {o : Obj} (h : w.heap[b]? = some o) (o' : Obj) : (w.alloc o').heap[b]? = some o := zAg h (zAa w o')
theorem bx_drew {w : World} {b : Nat} {o : Obj} (h : w.heap[b]? = some o) : w.drew.heap[b]? = some o := h
theorem bx_fr {S : Nat → Prop} {w w' : World} {b : Nat} {o : Obj} (h : w.heap[b]? = some o) (hb : Fr S w w') (hn : ¬ S b) : w'.heap[b]? = some o := (hb.block b (zAf h) hn).trans h
theorem zAr {w w' : World} {row : Option Nat} {b : Nat} {o : Obj} (h : w.heap[b]? = some o) (hg : w.grownBy w' row) (hn : ∀ k, row = some k → k ≠ b) : w'.heap[b]? = some o :=
 (hg.block b (zAf h) fun e => hn b e.symm rfl).trans h
theorem bx_set {w : World} {b : Nat} {o : Obj} (h : w.heap[b]? = some o) {a : Addr} (hn : b ≠ a.block) (u : Value) : (w.setCell a u).heap[b]? = some o := by
 rw [Below.heap_setCell w a u b hn]; exact h
theorem zAm {w : World} {lo : Nat} {e e' : TypeId} {size : Nat} {v : Value} {n : Nat} {xs : List Value} {b : Nat} {vs : Array Value} {f : Nat × Nat} (h : w.ownsRow lo e size v n xs) (hb : w.heap[b]? = some (.cells vs e' f)) (he : e ≠ e') : ∀ k, v.ownBlock = some k → k ≠ b := by
 intro k hk ek
 subst ek
 rcases h.2 with ⟨rfl, _⟩ | ⟨g, cap, cur, rfl, hg, hh, _⟩
 ·simp [Value.ownBlock] at hk
 ·simp [Value.ownBlock] at hk
  subst hk
  rw [hh] at hb
  injection hb with h1
  injection h1 with _ h2
  exact he h2
theorem zAo {w : World} {lo : Nat} {e : TypeId} {size : Nat} {v : Value} {n : Nat} {xs : List Value} (h : w.ownsRow lo e size v n xs) {a : Addr} (hn : ∀ k, v.ownBlock = some k → k ≠ a.block) (u : Value) : (w.setCell a u).ownsRow lo e size v n xs := by
 rcases h with ⟨hl, ⟨rfl, rfl⟩ | ⟨g, cap, cur, rfl, hg, hh, h1⟩⟩
 ·exact ⟨hl, Or.inl ⟨rfl, rfl⟩⟩
 ·exact ⟨hl, Or.inr ⟨g, cap, cur, rfl, hg, bx_set hh (hn g rfl) u, h1⟩⟩
theorem own_fr {S : Nat → Prop} {w w' : World} {lo : Nat} {e : TypeId} {size : Nat} {v : Value} {n : Nat} {xs : List Value} (h : w.ownsRow lo e size v n xs) (hb : Fr S w w') (hn : ∀ k, v.ownBlock = some k → ¬ S k) : w'.ownsRow lo e size v n xs := by
 rcases h with ⟨hl, ⟨rfl, rfl⟩ | ⟨g, cap, cur, rfl, hg, hh, h1⟩⟩
 ·exact ⟨hl, Or.inl ⟨rfl, rfl⟩⟩
 ·exact ⟨hl, Or.inr ⟨g, cap, cur, rfl, hg, bx_fr hh hb (hn g rfl), h1⟩⟩
theorem zAe {w w' : World} {lo : Nat} {e : TypeId} {size : Nat} {v : Value} {n : Nat} {xs : List Value} (h : w.ownsRow lo e size v n xs) (hb : Below w.heap.size w w') : w'.ownsRow lo e size v n xs := own_below h hb (own_lt h)
theorem own_grown {w w' : World} {row : Option Nat} {lo : Nat} {e : TypeId} {size : Nat} {v : Value} {n : Nat} {xs : List Value} (h : w.ownsRow lo e size v n xs) (hg : w.grownBy w' row) (hn : ∀ k, v.ownBlock = some k → row ≠ some k) : w'.ownsRow lo e size v n xs := by
 rcases h with ⟨hl, ⟨rfl, rfl⟩ | ⟨g, cap, cur, rfl, hgl, hh, h1⟩⟩
 ·exact ⟨hl, Or.inl ⟨rfl, rfl⟩⟩
 ·exact ⟨hl, Or.inr ⟨g, cap, cur, rfl, hgl, zAr hh hg (fun k hk e => hn g rfl (by rw [hk, e])), h1⟩⟩
theorem own_lit {w : World} {lo g : Nat} {e : TypeId} {size n : Nat} {cs : List Value} (hh : w.heap[g]? = some (.cells cs.toArray e (0, 0))) (hl : cs.length = n * size) (hn : n ≤ maxLen) (hg : lo ≤ g) :
  w.ownsRow lo e size (.slice (some ⟨g, 0, none⟩) n n) n cs :=
 ⟨hl, Or.inr ⟨g, n, cs.toArray, rfl, hg, hh, Nat.le_refl _, hn, by simpa using hl, by rw [← hl]; simp⟩⟩
theorem zAk {w : World} (o : Obj) {k : Nat} (h : k = w.heap.size) : (w.alloc o).heap[k]? = some o := by rw [h]; exact heap_alloc_new w o
theorem own_nil (w : World) (lo : Nat) (e : TypeId) (size : Nat) : w.ownsRow lo e size (.slice none 0 0) 0 [] := ⟨by simp, Or.inl ⟨rfl, rfl⟩⟩
end Go.Proofs.YtnphjhbfpoekpaaGreat
namespace Go.Proofs.YtnphjhbfpoekpaaGreat
set_option linter.unusedSimpArgs false
set_option linter.unusedVariables false
set_option linter.unnecessarySimpa false
open Go Go.RowKit
inductive Cl where
 | det (v : Value)
 | flo (R : Value → World → Prop)
def Cl.val (c : Cl) (d : Option Tmp) (f : Tmp → Value) : Value := match c with
 | .det v => v
 | .flo _ => f (d.getD 0)
def Cl.ok (c : Cl) (u : Value) (w : World) : Prop := match c with
 | .det v => u = v
 | .flo R => R u w
def putA (s : Array Value) (d : Option Tmp) (v : Value) : Array Value := match d with
 | some d => s.setIfInBounds d v
 | none => s
theorem putA_size (s : Array Value) (d : Option Tmp) (v : Value) : (putA s d v).size = s.size := by cases d <;> simp [putA]
abbrev Flo := List (Tmp × (Value → World → Prop))
def dropF (R : Flo) (d : Option Tmp) : Flo := R.filter fun p => d != some p.1
def addF (R : Flo) (d : Option Tmp) (c : Cl) : Flo := match d, c with
 | some t, .flo r => (t, r) :: dropF R d
 | _, _ => dropF R d
def NoQ : Exit → Act → World → Prop := fun _ _ _ => False
def ObOp (P : Program) (ops : Array Oper) (ds : List Deferred) (J : World → Prop) (St : World → World → Prop) (o : Oper) (c : Cl) (R : Flo) (s : (Tmp → Value) → Array Value) : Prop :=
 ∀ (f : Tmp → Value) (w : World) (K : Act → World → Prop), J w → (∀ p ∈ R, p.1 ∈ o.looksAt ops → p.2 (f p.1) w) →
  (∀ u w', J w' → St w w' → c.ok u w' → K (Act.put ⟨s f, ds⟩ o.dst u) w') →
  if Region.wanted o (yielded ops (s f)) = true then o.wp P ⟨s f, ds⟩ w K NoQ else K (Act.put ⟨s f, ds⟩ o.dst undef) w
def Det (P : Program) (ops : Array Oper) (ds : List Deferred) (J : World → Prop) (St : World → World → Prop) (Q : Exit → Act → World → Prop) : List Oper → Flo → ((Tmp → Value) → Array Value) → Prop
 | [], R, s => ∀ (f : Tmp → Value) (w : World), J w → (∀ p ∈ R, p.2 (f p.1) w) → Q .normal ⟨s f, ds⟩ w
 | o :: l, R, s => ∃ c : Cl, (∀ r, c = .flo r → (o.dst.isSome = true ∧ ∀ u w w', r u w → St w w' → r u w')) ∧ ObOp P ops ds J St o c R s ∧
   Det P ops ds J St Q l (addF R o.dst c) (fun f => putA (s f) o.dst (c.val o.dst f))
section
variable (l : List Oper) (c : Nat → Cl) (R0 : Flo) (s0 : (Tmp → Value) → Array Value)
def dstAt (i : Nat) : Option Tmp := (l[i]?).bind (·.dst)
def frN : Nat → (Tmp → Value) → Array Value
 | 0, f => s0 f
 | i + 1, f => putA (frN i f) (dstAt l i) ((c i).val (dstAt l i) f)
def RN : Nat → Flo
 | 0 => R0
 | i + 1 => addF (RN i) (dstAt l i) (c i)
def lastW (p : Nat → Bool) : Nat → Tmp → Option Nat
 | 0, _ => none
 | i + 1, t => if p i = true ∧ dstAt l i = some t then some i else lastW p i t
end
theorem det_chain {P : Program} {ops : Array Oper} {ds : List Deferred} {J : World → Prop} {St : World → World → Prop} {Q : Exit → Act → World → Prop} :
  ∀ (l : List Oper) (R : Flo) (s : (Tmp → Value) → Array Value), Det P ops ds J St Q l R s →
  ∃ c : Nat → Cl, (∀ i o, l[i]? = some o → (∀ r, c i = .flo r → (o.dst.isSome = true ∧ ∀ u w w', r u w → St w w' → r u w')) ∧ ObOp P ops ds J St o (c i) (RN l c R i) (frN l c s i)) ∧
   ∀ (f : Tmp → Value) (w : World), J w → (∀ p ∈ RN l c R l.length, p.2 (f p.1) w) → Q .normal ⟨frN l c s l.length f, ds⟩ w
 | [], R, s, h => ⟨fun _ => .det undef, fun i o hi => by simp at hi, h⟩
 | o :: l, R, s, ⟨c0, hst, hob, hl⟩ => by
   obtain ⟨c, h1, h2⟩ := det_chain l _ _ hl
   let c' : Nat → Cl := fun i => match i with | 0 => c0 | i + 1 => c i
   have e1 : ∀ i, RN (o :: l) c' R (i + 1) = RN l c (addF R o.dst c0) i := by
    intro i
    induction i with
    | zero => simp [RN, dstAt, c']
    | succ i ih => rw [RN, ih, RN]; simp [dstAt, c']
   have e2 : ∀ i, frN (o :: l) c' s (i + 1) = frN l c (fun f => putA (s f) o.dst (c0.val o.dst f)) i := by
    intro i
    induction i with
    | zero => funext f; simp [frN, dstAt, c']
    | succ i ih => funext f; rw [frN, ih, frN]; simp [dstAt, c']
   refine ⟨c', ?_, ?_⟩
   ·intro i o' hi
    cases i with
    | zero => simp at hi; subst hi; exact ⟨hst, hob⟩
    | succ i =>
     simp at hi
     rw [e1, e2]
     exact h1 i o' hi
   ·rw [List.length_cons, e1, e2]; exact h2
theorem frN_size {l : List Oper} {c : Nat → Cl} {s0 : (Tmp → Value) → Array Value} (f : Tmp → Value) : ∀ i, (frN l c s0 i f).size = (s0 f).size
 | 0 => rfl
 | i + 1 => by rw [frN, putA_size, frN_size f i]
theorem frN_read {l : List Oper} {c : Nat → Cl} {s0 : (Tmp → Value) → Array Value} (f : Tmp → Value) (t : Tmp) (ht : t < (s0 f).size) : ∀ i,
  (frN l c s0 i f)[t]? = match lastW l (fun _ => true) i t with
   | some j => some ((c j).val (some t) f)
   | none => (s0 f)[t]?
 | 0 => rfl
 | i + 1 => by
  rw [frN, lastW]
  by_cases h : dstAt l i = some t
  ·rw [if_pos ⟨rfl, h⟩, h]
   simp only [putA]
   rw [Array.getElem?_setIfInBounds_self_of_lt (by rw [frN_size]; exact ht)]
  ·rw [if_neg (by simp [h])]
   rw [← frN_read f t ht i]
   cases hd : dstAt l i with
   | none => rfl
   | some d =>
    have hne : d ≠ t := fun e => h (by rw [hd, e])
    simp only [putA]
    rw [Array.getElem?_setIfInBounds_ne hne]
theorem RN_mem {l : List Oper} {c : Nat → Cl} : ∀ (i : Nat) (p : Tmp × (Value → World → Prop)), p ∈ RN l c [] i →
  ∃ j, lastW l (fun _ => true) i p.1 = some j ∧ c j = .flo p.2
 | 0, p, h => by simp [RN] at h
 | i + 1, p, h => by
  rw [RN] at h
  have hdrop : ∀ d, p ∈ dropF (RN l c [] i) d → d = dstAt l i → ∃ j, lastW l (fun _ => true) (i + 1) p.1 = some j ∧ c j = .flo p.2 := by
   intro d hp hd
   obtain ⟨hm, hne⟩ := List.mem_filter.1 hp
   obtain ⟨j, hj, hc⟩ := RN_mem i p hm
   refine ⟨j, ?_, hc⟩
   rw [lastW, if_neg, hj]
   intro hh
   rw [hd, hh.2] at hne
   simp at hne
  cases hd : dstAt l i with
  | none => rw [hd] at h; exact hdrop _ (by simpa [addF] using h) hd.symm
  | some t =>
   cases hc : c i with
   | det v => rw [hd, hc] at h; exact hdrop (some t) (by simpa [addF] using h) hd.symm
   | flo r =>
    rw [hd, hc] at h
    simp only [addF, List.mem_cons] at h
    rcases h with rfl | h
    ·exact ⟨i, by rw [lastW, if_pos ⟨rfl, hd⟩], hc⟩
    ·exact hdrop (some t) h hd.symm
theorem lastW_eq {l : List Oper} {p : Nat → Bool} {t : Tmp} {i : Nat} : ∀ n, i ≤ n → (∀ j, j < n → dstAt l j = some t → (p j = true ↔ j < i)) →
  lastW l p n t = lastW l (fun _ => true) i t := by
 intro n hn h
 have base : ∀ k, k ≤ i → lastW l p k t = lastW l (fun _ => true) k t := by
  intro k
  induction k with
  | zero => intro _; rfl
  | succ k ih =>
   intro hk
   rw [lastW, lastW, ih (by omega)]
   by_cases hd : dstAt l k = some t
   ·have := (h k (by omega) hd).2 (by omega)
    simp [this]
   ·simp [hd]
 have up : ∀ d, i + d ≤ n → lastW l p (i + d) t = lastW l (fun _ => true) i t := by
  intro d
  induction d with
  | zero => intro _; exact base i (Nat.le_refl _)
  | succ d ih =>
   intro hk
   rw [← Nat.add_assoc, lastW, ih (by omega), if_neg]
   rintro ⟨h1, h2⟩
   have := (h (i + d) (by omega) h2).1 h1
   omega
 have := up (n - i) (by omega)
 rwa [show i + (n - i) = n by omega] at this
theorem lastW_congr {l : List Oper} {p q : Nat → Bool} {t : Tmp} : ∀ n, (∀ j, j < n → dstAt l j = some t → p j = q j) → lastW l p n t = lastW l q n t
 | 0, _ => rfl
 | n + 1, h => by
  rw [lastW, lastW, lastW_congr n (fun j hj => h j (by omega))]
  by_cases hd : dstAt l n = some t
  ·rw [h n (by omega) hd]
  ·simp [hd]
theorem lastW_spec {l : List Oper} {p : Nat → Bool} {t : Tmp} {j : Nat} : ∀ n, lastW l p n t = some j → j < n ∧ p j = true ∧ dstAt l j = some t
 | 0, h => by simp [lastW] at h
 | n + 1, h => by
  rw [lastW] at h
  split at h
  ·cases h; exact ⟨by omega, by assumption⟩
  ·obtain ⟨h1, h2⟩ := lastW_spec n h; exact ⟨by omega, h2⟩
def calmOp (o : Oper) : Bool := match o.op with | .select .. => false | .defer _ => false | .go _ => false | _ => true
def detOk (ops : Array Oper) (b : Array Nat) (N : Nat) : Bool :=
 (List.range ops.size).all fun i => match ops[i]? with
  | none => true
  | some o => calmOp o && (match o.dst with | some d => decide (d < N) | none => true) && (o.after.all fun e => !Region.binds .any e || decide (e.on < i)) &&
   (List.range i).all fun j => match ops[j]? with
    | none => true
    | some x => (x.apart ops o || (b.getD i 0).testBit j) &&
     (!(b.getD i 0).testBit j || o.after.any fun e => Region.binds .any e && (e.on == j || (decide (j < e.on) && (b.getD e.on 0).testBit j)))
theorem detOk_spec {ops : Array Oper} {b : Array Nat} {N : Nat} (h : detOk ops b N = true) :
  (∀ i o, ops[i]? = some o → calmOp o = true ∧ (∀ d, o.dst = some d → d < N) ∧ (∀ e ∈ o.after, Region.binds .any e = true → e.on < i)) ∧
  (∀ i o j x, ops[i]? = some o → ops[j]? = some x → j < i → (x.apart ops o = true ∨ (b.getD i 0).testBit j = true)) ∧
  (∀ i o j, ops[i]? = some o → j < i → (b.getD i 0).testBit j = true → ∃ e ∈ o.after, Region.binds .any e = true ∧ (e.on = j ∨ (j < e.on ∧ (b.getD e.on 0).testBit j = true))) := by
 unfold detOk at h
 rw [List.all_eq_true] at h
 have key : ∀ i o, ops[i]? = some o → calmOp o = true ∧ (∀ d, o.dst = some d → d < N) ∧ (∀ e ∈ o.after, Region.binds .any e = true → e.on < i) ∧
   (∀ j x, ops[j]? = some x → j < i → (x.apart ops o = true ∨ (b.getD i 0).testBit j = true) ∧ ((b.getD i 0).testBit j = true → ∃ e ∈ o.after, Region.binds .any e = true ∧ (e.on = j ∨ (j < e.on ∧ (b.getD e.on 0).testBit j = true)))) := by
  intro i o hi
  have hlt : i < ops.size := (Array.getElem?_eq_some_iff.1 hi).1
  have h1 := h i (List.mem_range.2 hlt)
  simp only [hi, Bool.and_eq_true, List.all_eq_true, Array.all_eq_true_iff_forall_mem] at h1
  obtain ⟨⟨⟨h1, h0⟩, h2⟩, h3⟩ := h1
  refine ⟨h1, (fun d hd => by simpa [hd] using h0), ?_, ?_⟩
  ·intro e he hb
   have := h2 e he
   simpa [hb] using this
  ·intro j x hj hji
   have h4 := h3 j (List.mem_range.2 hji)
   simp only [hj, Bool.and_eq_true] at h4
   obtain ⟨h5, h6⟩ := h4
   refine ⟨by simpa using h5, ?_⟩
   intro hb
   rw [hb] at h6
   rw [Bool.not_true, Bool.false_or, Array.any_eq_true'] at h6
   simpa only [Bool.and_eq_true, Bool.or_eq_true, beq_iff_eq, decide_eq_true_eq] using h6
 refine ⟨fun i o hi => ⟨(key i o hi).1, (key i o hi).2.1, (key i o hi).2.2.1⟩, fun i o j x hi hj hji => ((key i o hi).2.2.2 j x hj hji).1, ?_⟩
 intro i o j hi hji hb
 have hlt : i < ops.size := (Array.getElem?_eq_some_iff.1 hi).1
 exact ((key i o hi).2.2.2 j ops[j] (Array.getElem?_eq_getElem (by omega)) hji).2 hb
theorem apart_false {ops : Array Oper} {x y : Oper} {t : Tmp} (hx : x.dst = some t) (hy : t ∈ y.looksAt ops ∨ y.dst = some t) : x.apart ops y = false := by
 unfold Oper.apart
 rw [hx]
 rcases hy with h | h
 ·simp [h]
 ·simp [h]
theorem apart_false' {ops : Array Oper} {x y : Oper} {t : Tmp} (hx : x.dst = some t) (hy : t ∈ y.looksAt ops ∨ y.dst = some t) : y.apart ops x = false := by
 unfold Oper.apart
 rw [hx]
 rcases hy with h | h
 ·simp [h]
 ·simp [h]
section
variable {P : Program} {ops : Array Oper} {ds : List Deferred} {J : World → Prop} {St : World → World → Prop} {Q : Exit → Act → World → Prop} {s0 : Array Value} {b : Array Nat} {c : Nat → Cl}
structure DInv (ops : Array Oper) (ds : List Deferred) (J : World → Prop) (s0 : Array Value) (c : Nat → Cl) (listed : Array Bool) (a : Act) (w : World) : Prop where
 size : listed.size = ops.size
 defers : a.defers = ds
 tmps : a.tmps.size = s0.size
 j : J w
 closed : ∀ (i : Nat) (o : Oper), ops[i]? = some o → listed.getD i false = true → ∀ e ∈ o.after, Region.binds .any e = true → listed.getD e.on false = true
 reads : ∀ t, t < s0.size → match lastW ops.toList (fun j => listed.getD j false) ops.size t with
  | some j => (c j).ok (a.tmps.getD t undef) w
  | none => a.tmps[t]? = s0[t]?
theorem dstAt_of {i : Nat} {o : Oper} (h : ops[i]? = some o) : dstAt ops.toList i = o.dst := by
 unfold dstAt
 rw [← Array.getElem?_toList] at h
 rw [h]; rfl
theorem of_dstAt {i : Nat} {t : Tmp} (h : dstAt ops.toList i = some t) : ∃ o, ops[i]? = some o ∧ o.dst = some t := by
 unfold dstAt at h
 rw [Array.getElem?_toList] at h
 cases ho : ops[i]? with
 | none => rw [ho] at h; simp at h
 | some o => rw [ho] at h; exact ⟨o, rfl, by simpa using h⟩
theorem closed_bit (hok : detOk ops b s0.size = true) {listed : Array Bool} (hc : ∀ (i : Nat) (o : Oper), ops[i]? = some o → listed.getD i false = true → ∀ e ∈ o.after, Region.binds .any e = true → listed.getD e.on false = true) :
  ∀ (i : Nat) (o : Oper), ops[i]? = some o → (∀ e ∈ o.after, Region.binds .any e = true → listed.getD e.on false = true) → ∀ j, j < i → (b.getD i 0).testBit j = true → listed.getD j false = true := by
 obtain ⟨h1, h2, h3⟩ := detOk_spec hok
 intro i
 induction i using Nat.strongRecOn with
 | _ i ih =>
  intro o hi ha j hji hb
  obtain ⟨e, he, hbe, h⟩ := h3 i o j hi hji hb
  have hel := ha e he hbe
  rcases h with h | ⟨hlt, h⟩
  ·rw [← h]; exact hel
  ·have hei := (h1 i o hi).2.2 e he hbe
   have hlt' : i < ops.size := (Array.getElem?_eq_some_iff.1 hi).1
   have hoe : ops[e.on]? = some (ops[e.on]'(by omega)) := Array.getElem?_eq_getElem _
   exact ih e.on hei _ hoe (hc _ _ hoe hel) j hlt h
theorem listed_iff (hok : detOk ops b s0.size = true) {listed : Array Bool} {a : Act} {w : World} (hI : DInv ops ds J s0 c listed a w) {i : Nat} {o : Oper} (hi : ops[i]? = some o)
  (hun : listed.getD i true = false) (hrd : ∀ e ∈ o.after, Region.binds .any e = true → listed.getD e.on false = true) {t : Tmp} (ht : t ∈ o.looksAt ops ∨ o.dst = some t) :
  ∀ j, j < ops.size → dstAt ops.toList j = some t → (listed.getD j false = true ↔ j < i) := by
 intro j hj hd
 obtain ⟨x, hx, hxd⟩ := of_dstAt hd
 obtain ⟨h1, h2, h3⟩ := detOk_spec hok
 have hlti : i < ops.size := (Array.getElem?_eq_some_iff.1 hi).1
 have hunf : listed.getD i false = false := by
  have : i < listed.size := by rw [hI.size]; exact hlti
  simp [this] at hun ⊢; exact hun
 constructor
 ·intro hl
  rcases Nat.lt_trichotomy j i with h | h | h
  ·exact h
  ·subst h; rw [hunf] at hl; cases hl
  ·exfalso
   have hap := apart_false' hxd ht
   have hb := (h2 j x i o hx hi h).resolve_left (by rw [hap]; simp)
   have := closed_bit hok hI.closed j x hx (hI.closed j x hx hl) i h hb
   rw [hunf] at this; cases this
 ·intro h
  have hap := apart_false hxd ht
  have hb := (h2 i o j x hi hx h).resolve_left (by rw [hap]; simp)
  exact closed_bit hok hI.closed i o hi hrd j h hb
theorem frame_agree (hok : detOk ops b s0.size = true) {listed : Array Bool} {a : Act} {w : World} (hI : DInv ops ds J s0 c listed a w) {i : Nat} {o : Oper} (hi : ops[i]? = some o)
  (hun : listed.getD i true = false) (hrd : ∀ e ∈ o.after, Region.binds .any e = true → listed.getD e.on false = true) {t : Tmp} (ht : t ∈ o.looksAt ops) :
  a.tmps[t]? = (frN ops.toList c (fun _ => s0) i (fun t => a.tmps.getD t undef))[t]? := by
 by_cases hlt : t < s0.size
 ·have hlti : i < ops.size := (Array.getElem?_eq_some_iff.1 hi).1
  rw [frN_read _ _ hlt]
  have hr := hI.reads t hlt
  rw [lastW_eq ops.size (Nat.le_of_lt hlti) (listed_iff hok hI hi hun hrd (Or.inl ht))] at hr
  cases hl : lastW ops.toList (fun _ => true) i t with
  | none => rw [hl] at hr; exact hr
  | some j =>
   rw [hl] at hr
   replace hr : (c j).ok (a.tmps.getD t undef) w := hr
   have hs : a.tmps[t]? = some (a.tmps.getD t undef) := by
    have : t < a.tmps.size := by rw [hI.tmps]; exact hlt
    simp [this]
   rw [hs]
   show some _ = some _
   congr 1
   cases hc : c j with
   | det v => rw [hc] at hr; exact hr
   | flo r => rfl
 ·have e1 : a.tmps.size ≤ t := by rw [hI.tmps]; exact Nat.not_lt.1 hlt
  have e2 : (frN ops.toList c (fun _ => s0) i (fun t => a.tmps.getD t undef)).size ≤ t := by rw [frN_size]; exact Nat.not_lt.1 hlt
  rw [Array.getElem?_eq_none e1, Array.getElem?_eq_none e2]
theorem oper_move {o : Oper} (hcalm : calmOp o = true) {a a' : Act} {w : World} {K K' : Act → World → Prop} (hag : ∀ t ∈ o.looksAt ops, a.tmps[t]? = a'.tmps[t]?)
  (hK : ∀ u w', K (a'.put o.dst u) w' → K' (a.put o.dst u) w') (hD : ∀ (d : Deferred) u w', ¬ K ({ a' with defers := d :: a'.defers }.put o.dst u) w') (h : o.wp P a' w K NoQ) : o.wp P a w K' Q := by
 unfold Oper.wp at *
 rw [execOp_congr (ρ := a.eval) (ρ' := a'.eval) o (by intro cs bl hs; simp [calmOp, hs] at hcalm) (by
  intro x hx
  cases x with
  | tmp t =>
   have := hag t (List.mem_append_left _ (List.mem_filterMap.2 ⟨.tmp t, by simpa using hx, rfl⟩))
   simp [Act.eval, this]
  | _ => rfl)]
 generalize (execOp a'.eval o).run P w = r at *
 cases r with
 | ok n w' =>
  cases n <;> simp only [Oper.upon] at h ⊢
  case value u => exact hK _ _ h
  case skip => exact hK _ _ h
  case defer d => exact (hD _ _ _ h).elim
  case enter f args =>
   refine Calls.mono h fun e w'' he => ?_
   cases e with
   | returned u => exact hK _ _ he
   | panicked ch => exact (he : False).elim
   | outgrown =>
    obtain ⟨_, _, hh⟩ := (he : LetsOut NoQ)
    exact (hh : False).elim
  case row row args => exact Rows.mono h fun u w'' he => hK _ _ he
 | halt x w' =>
  cases x <;> simp only [Oper.upon] at h ⊢
  case panic u => exact (h : False).elim
theorem wanted_agree {o : Oper} {s s' : Array Value} (hag : ∀ t ∈ o.looksAt ops, s[t]? = s'[t]?) : Region.wanted o (yielded ops s) = Region.wanted o (yielded ops s') := by
 unfold Region.wanted
 cases hg : o.guard with
 | none => rfl
 | some gw =>
  obtain ⟨g, want⟩ := gw
  have hy : yielded ops s g = yielded ops s' g := by
   unfold yielded
   cases ht : (ops[g]?).bind (·.dst) with
   | none => rfl
   | some t =>
    have := hag t (by simp [Oper.looksAt, hg, ht])
    simp [this]
  simp only [hy]
theorem put_getD {s : Array Value} {u : Value} {d : Tmp} (ds : List Deferred) (h : d < s.size) : (Act.put ⟨s, ds⟩ (some d) u).tmps.getD d undef = u := by simp [Act.put, h]
theorem getD_tf {l : Array Bool} {i : Nat} (hs : i < l.size) : l.getD i true = l.getD i false := by simp [hs]
theorem cond_move {o : Oper} {K K' : Act → World → Prop} {a a' : Act} {w : World} {P : Program} (i : Nat) (hi : ops[i]? = some o) (hw : Region.wanted o (yielded ops a.tmps) = Region.wanted o (yielded ops a'.tmps))
  (h1 : o.wp P a' w K NoQ → o.wp P a w K' Q) (h2 : K (a'.put o.dst undef) w → K' (a.put o.dst undef) w)
  (h : if Region.wanted o (yielded ops a'.tmps) = true then o.wp P a' w K NoQ else K (a'.put o.dst undef) w) : wpOp P ops Q i K' a w := by
 unfold wpOp
 simp only [hi]
 rw [hw]
 split
 ·rename_i hh; rw [if_pos hh] at h; exact .inl (h1 h)
 ·rename_i hh; rw [if_neg hh] at h; exact h2 h
theorem dstep (hok : detOk ops b s0.size = true)
  (hob : ∀ i o, ops[i]? = some o → (∀ r, c i = .flo r → (o.dst.isSome = true ∧ ∀ u w w', r u w → St w w' → r u w')) ∧ ObOp P ops ds J St o (c i) (RN ops.toList c [] i) (frN ops.toList c (fun _ => s0) i))
  {listed : Array Bool} {a : Act} {w : World} (hI : DInv ops ds J s0 c listed a w) {i : Nat} (hr : i ∈ Region.ready .any ops listed) {K : Act → World → Prop}
  (hK : ∀ a' w', DInv ops ds J s0 c (listed.setIfInBounds i true) a' w' → K a' w') : wpOp P ops Q i K a w := by
 obtain ⟨hun, o, hi, hrd⟩ := mem_ready.1 hr
 have hlti : i < ops.size := (Array.getElem?_eq_some_iff.1 hi).1
 obtain ⟨hk1, hk2, hk3⟩ := detOk_spec hok
 have hag : ∀ t ∈ o.looksAt ops, a.tmps[t]? = (frN ops.toList c (fun _ => s0) i (fun t => a.tmps.getD t undef))[t]? := fun t ht => frame_agree hok hI hi hun hrd ht
 obtain ⟨hst, ho⟩ := hob i o hi
 have h0 := ho (fun t => a.tmps.getD t undef) w (fun a' w' => J w' ∧ St w w' ∧ a'.defers = ds ∧ ∀ d, o.dst = some d → (c i).ok (a'.tmps.getD d undef) w') hI.j ?_ ?_
 ·have fin : ∀ u w', J w' → St w w' → (∀ d, o.dst = some d → (c i).ok ((Act.put ⟨frN ops.toList c (fun _ => s0) i (fun t => a.tmps.getD t undef), ds⟩ o.dst u).tmps.getD d undef) w') → K (a.put o.dst u) w' := by
   intro u w' hJ hS hok'
   refine hK _ _ ⟨by rw [Array.size_setIfInBounds]; exact hI.size, ?_, ?_, hJ, ?_, ?_⟩
   ·cases hd : o.dst <;> simp [Act.put, hI.defers]
   ·cases hd : o.dst <;> simp [Act.put, hI.tmps]
   ·intro j x hx hl e he hb
    by_cases hij : i = j
    ·subst hij
     have : x = o := by rw [hi] at hx; exact (Option.some.inj hx).symm
     subst this
     exact getD_set_true (hrd e he hb)
    ·rw [getD_set_ne false hij] at hl
     exact getD_set_true (hI.closed j x hx hl e he hb)
   ·intro t ht
    have hold := hI.reads t ht
    by_cases hd : o.dst = some t
    ·have e1 : lastW ops.toList (fun j => (listed.setIfInBounds i true).getD j false) ops.size t = some i := by
      have := lastW_eq (l := ops.toList) (p := fun j => (listed.setIfInBounds i true).getD j false) (t := t) (i := i + 1) ops.size (by omega) (by
       intro j hj hdj
       have hh := listed_iff hok hI hi hun hrd (Or.inr hd) j hj hdj
       by_cases hij : i = j
       ·subst hij
        have : i < listed.size := by rw [hI.size]; exact hlti
        simp [this]
       ·show (listed.setIfInBounds i true).getD j false = true ↔ _
        rw [getD_set_ne false hij, hh]
        omega)
      rw [this, lastW, if_pos ⟨rfl, by rw [dstAt_of hi]; exact hd⟩]
     rw [e1]
     have h3 := hok' t hd
     have e2 : (a.put o.dst u).tmps.getD t undef = u := by
      have : t < a.tmps.size := by rw [hI.tmps]; exact ht
      simp [Act.put, hd, this]
     have e3 : (Act.put ⟨frN ops.toList c (fun _ => s0) i (fun t => a.tmps.getD t undef), ds⟩ o.dst u).tmps.getD t undef = u := by
      rw [hd]; exact put_getD _ (by rw [frN_size]; exact ht)
     rw [e3] at h3
     show (c i).ok ((a.put o.dst u).tmps.getD t undef) w'
     rw [e2]; exact h3
    ·have e1 : lastW ops.toList (fun j => (listed.setIfInBounds i true).getD j false) ops.size t = lastW ops.toList (fun j => listed.getD j false) ops.size t := by
      refine lastW_congr _ fun j hj hdj => ?_
      have hij : i ≠ j := by
       intro e; subst e; rw [dstAt_of hi] at hdj; exact hd hdj
      exact getD_set_ne false hij
     have e2 : (a.put o.dst u).tmps[t]? = a.tmps[t]? := by
      cases hdd : o.dst with
      | none => rfl
      | some d =>
       have hne : d ≠ t := fun e => hd (by rw [hdd, e])
       simp [Act.put, Array.getElem?_setIfInBounds_ne hne]
     have e3 : (a.put o.dst u).tmps.getD t undef = a.tmps.getD t undef := by
      have h4 := congrArg (·.getD undef) e2
      simpa using h4
     rw [e1]
     cases hl : lastW ops.toList (fun j => listed.getD j false) ops.size t with
     | none => rw [hl] at hold; show (a.put o.dst u).tmps[t]? = _; rw [e2]; exact hold
     | some j =>
      rw [hl] at hold
      show (c j).ok ((a.put o.dst u).tmps.getD t undef) w'
      rw [e3]
      replace hold : (c j).ok (a.tmps.getD t undef) w := hold
      cases hc : c j with
      | det v => rw [hc] at hold; exact hold
      | flo r =>
       rw [hc] at hold
       obtain ⟨hj1, _, hj2⟩ := lastW_spec _ hl
       obtain ⟨x, hx, _⟩ := of_dstAt hj2
       exact ((hob j x hx).1 r hc).2 _ _ _ hold hS
  refine cond_move (K := fun a' w' => J w' ∧ St w w' ∧ a'.defers = ds ∧ ∀ d, o.dst = some d → (c i).ok (a'.tmps.getD d undef) w') (a' := ⟨frN ops.toList c (fun _ => s0) i (fun t => a.tmps.getD t undef), ds⟩) i hi (wanted_agree hag) (fun h => oper_move (K := fun a' w' => J w' ∧ St w w' ∧ a'.defers = ds ∧ ∀ d, o.dst = some d → (c i).ok (a'.tmps.getD d undef) w') (hk1 i o hi).1 hag ?_ ?_ h) ?_ h0
  ·intro u w' hh
   exact fin u w' hh.1 hh.2.1 hh.2.2.2
  ·intro d u w' hh
   have := hh.2.2.1
   have h5 := congrArg List.length this
   cases hdd : o.dst <;> simp [Act.put, hdd] at h5
  ·intro hh
   exact fin undef w hh.1 hh.2.1 hh.2.2.2
 ·intro p hp hlk
  obtain ⟨j, hj, hcj⟩ := RN_mem i p hp
  have hlt : p.1 < s0.size := by
   obtain ⟨_, _, hj2⟩ := lastW_spec _ hj
   obtain ⟨x, hx, hxd⟩ := of_dstAt hj2
   exact (hk1 j x hx).2.1 _ hxd
  have hr := hI.reads p.1 hlt
  rw [lastW_eq ops.size (Nat.le_of_lt hlti) (listed_iff hok hI hi hun hrd (Or.inl hlk)), hj] at hr
  replace hr : (c j).ok (a.tmps.getD p.1 undef) w := hr
  rw [hcj] at hr
  exact hr
 ·intro u w' hJ hS hok'
  refine ⟨hJ, hS, by cases o.dst <;> rfl, ?_⟩
  intro d hd
  have hlt := (hk1 i o hi).2.1 d hd
  rw [hd, put_getD _ (by rw [frN_size]; exact hlt)]
  exact hok'
def unlisted (n : Nat) (listed : Array Bool) : Nat := ((List.range n).filter fun j => !listed.getD j false).length
theorem unlisted_lt {n : Nat} {listed : Array Bool} {i : Nat} (hi : i < n) (hs : i < listed.size) (hun : listed.getD i false = false) : unlisted n (listed.setIfInBounds i true) < unlisted n listed := by
 unfold unlisted
 rw [← List.countP_eq_length_filter, ← List.countP_eq_length_filter]
 have hsplit : ∀ n, i < n → List.countP (fun j => !(listed.setIfInBounds i true).getD j false) (List.range n) + 1 = List.countP (fun j => !listed.getD j false) (List.range n) := by
  intro n
  induction n with
  | zero => intro h; omega
  | succ n ih =>
   intro h
   rw [List.range_succ, List.countP_append, List.countP_append]
   by_cases hin : i = n
   ·subst hin
    have same : List.countP (fun j => !(listed.setIfInBounds i true).getD j false) (List.range i) = List.countP (fun j => !listed.getD j false) (List.range i) := by
     apply List.countP_congr
     intro j hj
     have : i ≠ j := by have := List.mem_range.1 hj; omega
     rw [getD_set_ne false this]
    rw [same]
    have h1 : (listed.setIfInBounds i true).getD i false = true := by simp [hs]
    simp only [List.countP_singleton, h1, hun]
    simp
   ·have := ih (by omega)
    simp only [List.countP_singleton]
    rw [getD_set_ne false hin]
    omega
 have := hsplit n hi
 omega
theorem all_listed (hok : detOk ops b s0.size = true) {listed : Array Bool} (hs : listed.size = ops.size) (hr : Region.ready .any ops listed = []) : ∀ i, i < ops.size → listed.getD i false = true := by
 intro i
 induction i using Nat.strongRecOn with
 | _ i ih =>
  intro hi
  cases hl : listed.getD i false with
  | true => rfl
  | false =>
   exfalso
   have hm : i ∈ Region.ready .any ops listed := by
    rw [mem_ready]
    refine ⟨by rw [getD_tf (by omega)]; exact hl, ops[i], Array.getElem?_eq_getElem hi, ?_⟩
    intro e he hb
    have hlt := ((detOk_spec hok).1 i ops[i] (Array.getElem?_eq_getElem hi)).2.2 e he hb
    exact ih e.on hlt (by omega)
   rw [hr] at hm
   cases hm
theorem dfin (hok : detOk ops b s0.size = true)
  (hfin : ∀ (f : Tmp → Value) (w : World), J w → (∀ p ∈ RN ops.toList c [] ops.toList.length, p.2 (f p.1) w) → Q .normal ⟨frN ops.toList c (fun _ => s0) ops.toList.length f, ds⟩ w)
  {listed : Array Bool} {a : Act} {w : World} (hI : DInv ops ds J s0 c listed a w) (hr : Region.ready .any ops listed = []) : Q .normal a w := by
 have hall := all_listed hok hI.size hr
 have hlen : ops.toList.length = ops.size := by simp
 rw [hlen] at hfin
 have e0 : ∀ t, lastW ops.toList (fun j => listed.getD j false) ops.size t = lastW ops.toList (fun _ => true) ops.size t := fun t => lastW_congr _ fun j hj _ => hall j hj
 have ea : a = ⟨frN ops.toList c (fun _ => s0) ops.size (fun t => a.tmps.getD t undef), ds⟩ := by
  have e1 : a.tmps = frN ops.toList c (fun _ => s0) ops.size (fun t => a.tmps.getD t undef) := by
   apply Array.ext_getElem?
   intro t
   by_cases hlt : t < s0.size
   ·rw [frN_read _ _ hlt]
    have hr := hI.reads t hlt
    rw [e0] at hr
    cases hl : lastW ops.toList (fun _ => true) ops.size t with
    | none => rw [hl] at hr; exact hr
    | some j =>
     rw [hl] at hr
     replace hr : (c j).ok (a.tmps.getD t undef) w := hr
     have hs : a.tmps[t]? = some (a.tmps.getD t undef) := by
      have : t < a.tmps.size := by rw [hI.tmps]; exact hlt
      simp [this]
     rw [hs]
     show some _ = some _
     congr 1
     cases hc : c j with
     | det v => rw [hc] at hr; exact hr
     | flo r => rfl
   ·have h1 : a.tmps.size ≤ t := by rw [hI.tmps]; exact Nat.not_lt.1 hlt
    have h2 : (frN ops.toList c (fun _ => s0) ops.size (fun t => a.tmps.getD t undef)).size ≤ t := by rw [frN_size]; exact Nat.not_lt.1 hlt
    rw [Array.getElem?_eq_none h1, Array.getElem?_eq_none h2]
  have e2 := hI.defers
  obtain ⟨at', ad⟩ := a
  simp only at e1 e2
  subst e2
  exact congrArg (fun x => (⟨x, ad⟩ : Act)) e1
 rw [ea]
 refine hfin _ w hI.j ?_
 intro p hp
 obtain ⟨j, hj, hcj⟩ := RN_mem ops.size p hp
 have hlt : p.1 < s0.size := by
  obtain ⟨_, _, hj2⟩ := lastW_spec _ hj
  obtain ⟨x, hx, hxd⟩ := of_dstAt hj2
  exact ((detOk_spec hok).1 j x hx).2.1 _ hxd
 have hr := hI.reads p.1 hlt
 rw [e0, hj] at hr
 replace hr : (c j).ok (a.tmps.getD p.1 undef) w := hr
 rw [hcj] at hr
 exact hr
theorem wpAny_det (hok : detOk ops b s0.size = true)
  (hob : ∀ i o, ops[i]? = some o → (∀ r, c i = .flo r → (o.dst.isSome = true ∧ ∀ u w w', r u w → St w w' → r u w')) ∧ ObOp P ops ds J St o (c i) (RN ops.toList c [] i) (frN ops.toList c (fun _ => s0) i))
  (hfin : ∀ (f : Tmp → Value) (w : World), J w → (∀ p ∈ RN ops.toList c [] ops.toList.length, p.2 (f p.1) w) → Q .normal ⟨frN ops.toList c (fun _ => s0) ops.toList.length f, ds⟩ w) :
  ∀ (fuel : Nat) (listed : Array Bool) (a : Act) (w : World), DInv ops ds J s0 c listed a w → unlisted ops.size listed ≤ fuel → wpAny P .any ops Q fuel listed a w := by
 intro fuel
 induction fuel with
 | zero =>
  intro listed a w hI hf
  have hr : Region.ready .any ops listed = [] := by
   apply List.eq_nil_iff_forall_not_mem.2
   intro i hi
   obtain ⟨hun, o, ho, _⟩ := mem_ready.1 hi
   have hlti : i < ops.size := (Array.getElem?_eq_some_iff.1 ho).1
   have hs : i < listed.size := by rw [hI.size]; exact hlti
   have := unlisted_lt hlti hs (by rw [← getD_tf hs]; exact hun)
   omega
  exact ⟨hr, dfin hok hfin hI hr⟩
 | succ fuel ih =>
  intro listed a w hI hf
  refine ⟨fun hr => dfin hok hfin hI hr, fun i hi => ?_⟩
  refine dstep hok hob hI hi fun a' w' hI' => ih _ a' w' hI' ?_
  obtain ⟨hun, o, ho, _⟩ := mem_ready.1 hi
  have hlti : i < ops.size := (Array.getElem?_eq_some_iff.1 ho).1
  have hs : i < listed.size := by rw [hI.size]; exact hlti
  have := unlisted_lt hlti hs (by rw [← getD_tf hs]; exact hun)
  omega
theorem wp_region_det {id : Nat} {w : World} (hm : P.follows .mixedOrders = true) (hok : detOk ops b s0.size = true) (hJ : J w.drew)
  (h : Det P ops ds J St Q ops.toList [] (fun _ => s0)) : (Code.region id ops true).wp P Q ⟨s0, ds⟩ w := by
 obtain ⟨c, h1, h2⟩ := det_chain _ _ _ h
 refine wp_region_any hm (wpAny_det (b := b) (c := c) hok (fun i o ho => h1 i o (by rw [Array.getElem?_toList]; exact ho)) h2 ops.size _ _ _ ⟨by simp, rfl, rfl, hJ, ?_, ?_⟩ ?_)
 ·intro i o hi hl
  have hlt : i < ops.size := (Array.getElem?_eq_some_iff.1 hi).1
  simp [hlt] at hl
 ·intro t ht
  have : lastW ops.toList (fun j => (Array.replicate ops.size false).getD j false) ops.size t = none := by
   have := lastW_eq (l := ops.toList) (p := fun j => (Array.replicate ops.size false).getD j false) (t := t) (i := 0) ops.size (Nat.zero_le _) (by
    intro j hj _
    simp [hj])
   rw [this]; rfl
  rw [this]
 ·unfold unlisted
  refine Nat.le_trans (List.length_filter_le _ _) (by simp)
def Det0 (P : Program) (ops : Array Oper) (ds : List Deferred) (J : World → Prop) (Q : Exit → Act → World → Prop) (l : List Oper) (s : Array Value) : Prop :=
 Det P ops ds J (fun _ _ => True) Q l [] (fun _ => s)
theorem wp_region_det0 {id : Nat} {w : World} (J : World → Prop) (hm : P.follows .mixedOrders = true) (hok : detOk ops (Region.before ops) s0.size = true) (hJ : J w.drew)
  (h : Det0 P ops ds J Q ops.toList s0) : (Code.region id ops true).wp P Q ⟨s0, ds⟩ w := wp_region_det hm hok hJ h
theorem Det0.nil {s : Array Value} (h : ∀ w, J w → Q .normal ⟨s, ds⟩ w) : Det0 P ops ds J Q [] s := fun _ w hJ _ => h w hJ
theorem Det0.step {o : Oper} {l : List Oper} {s : Array Value} (v : Value) (hw : Region.wanted o (yielded ops s) = true)
  (h : ∀ (w : World) (K : Act → World → Prop), J w → Shut (∀ w', J w' → K (Act.put ⟨s, ds⟩ o.dst v) w') → o.wp P ⟨s, ds⟩ w K NoQ)
  (hl : Det0 P ops ds J Q l (putA s o.dst v)) : Det0 P ops ds J Q (o :: l) s := by
 refine ⟨.det v, (fun r h => by cases h), ?_, ?_⟩
 ·intro f w K hJ _ hK
  rw [if_pos hw]
  exact h w K hJ fun w' hJ' => hK v w' hJ' trivial rfl
 ·have : addF [] o.dst (.det v) = [] := by cases o.dst <;> rfl
  rw [this]
  exact hl
theorem Det0.skip {o : Oper} {l : List Oper} {s : Array Value} (hw : Region.wanted o (yielded ops s) = false)
  (hl : Det0 P ops ds J Q l (putA s o.dst undef)) : Det0 P ops ds J Q (o :: l) s := by
 refine ⟨.det undef, (fun r h => by cases h), ?_, ?_⟩
 ·intro f w K hJ _ hK
  rw [hw, if_neg (by simp)]
  exact hK undef w hJ trivial rfl
 ·have : addF [] o.dst (.det undef) = [] := by cases o.dst <;> rfl
  rw [this]
  exact hl
theorem Det0.pure {o : Oper} {l : List Oper} {s : Array Value} (v : Value) (hw : Region.wanted o (yielded ops s) = true)
  (h : ∀ w, J w → (execOp (Act.eval ⟨s, ds⟩) o).run P w = .ok (.value v) w)
  (hl : Det0 P ops ds J Q l (putA s o.dst v)) : Det0 P ops ds J Q (o :: l) s :=
 Det0.step v hw (fun w K hJ hK => by unfold Oper.wp; rw [h w hJ]; exact hK.out w hJ) hl
theorem wp_region_below {id : Nat} {w : World} (hm : P.follows .mixedOrders = true) (hok : detOk ops (Region.before ops) s0.size = true)
  (h : ∀ W : World, W = w.drew → Det0 P ops ds (fun w9 => Below W.heap.size W w9) Q ops.toList s0) : (Code.region id ops true).wp P Q ⟨s0, ds⟩ w :=
 wp_region_det0 _ hm hok (Below.refl _ _) (h _ rfl)
theorem eq_if3 {a b c x y z : Int} {w : World} : (if a = x then if b = y then if c = z then Result.ok (Next.value (Value.bool true)) w else Result.ok (Next.value (Value.bool false)) w else Result.ok (Next.value (Value.bool false)) w else Result.ok (Next.value (Value.bool false)) w) = Result.ok (Next.value (Value.bool (a == x && b == y && c == z))) w := by
 by_cases h1 : a = x <;> by_cases h2 : b = y <;> by_cases h3 : c = z <;> simp [h1, h2, h3]
theorem neq_if3 {a b c x y z : Int} {w : World} : (if a = x then if b = y then if c = z then Result.ok (Next.value (Value.bool false)) w else Result.ok (Next.value (Value.bool true)) w else Result.ok (Next.value (Value.bool true)) w else Result.ok (Next.value (Value.bool true)) w) = Result.ok (Next.value (Value.bool (!(a == x && b == y && c == z)))) w := by
 by_cases h1 : a = x <;> by_cases h2 : b = y <;> by_cases h3 : c = z <;> simp [h1, h2, h3]
end
def Q.v (q : Q) : V := ⟨q.a, q.b, q.c⟩
def Q.ok (q : Q) : Bool := timeB q.t && vecOkB q.a q.b q.c
def Q.same (p q : Q) : Bool := p.a == q.a && p.b == q.b && p.c == q.c
def ptOk (ps : List Q) (k : Nat) : Bool := match ps[k]? with
 | none => true
 | some q => q.ok && (decide (k = 0) || match ps[k - 1]? with
  | none => true
  | some p => decide (p.t < q.t) && !p.same q)
def zAx (ps : List Q) : Bool := decide (1 ≤ ps.length) && decide (ps.length ≤ 200) && decide ((ps.head?.map (·.t)) = some 0) && (List.range ps.length).all (ptOk ps)
theorem profOk_parts {ps : List Q} (h : zAx ps = true) : 1 ≤ ps.length ∧ ps.length ≤ 200 ∧ ps.head?.map (·.t) = some 0 ∧ (∀ q ∈ ps, q.ok = true) ∧ ps.Pairwise (fun p q => p.t < q.t) := by
 unfold zAx at h
 simp only [Bool.and_eq_true, decide_eq_true_eq, List.all_eq_true, List.mem_range] at h
 obtain ⟨⟨⟨h1, h2⟩, h3⟩, h4⟩ := h
 refine ⟨h1, h2, h3, ?_, ?_⟩
 ·intro q hq
  obtain ⟨k, hk, rfl⟩ := List.getElem_of_mem hq
  have := h4 k hk
  unfold ptOk at this
  rw [zgh hk] at this
  simp only [Bool.and_eq_true] at this
  exact this.1
 ·rw [List.pairwise_iff_getElem]
  intro i j hi hj hij
  have step : ∀ k, k + 1 < ps.length → (hk : k + 1 < ps.length) → ps[k].t < ps[k + 1].t := by
   intro k _ hk
   have := h4 (k + 1) hk
   unfold ptOk at this
   rw [zgh hk] at this
   simp only [Bool.and_eq_true, Bool.or_eq_true, decide_eq_true_eq] at this
   have h5 := this.2.resolve_left (by omega)
   rw [show k + 1 - 1 = k by omega, zgh (by omega)] at h5
   simp only [Bool.and_eq_true, decide_eq_true_eq] at h5
   exact h5.1
  obtain ⟨d, rfl⟩ : ∃ d, j = i + 1 + d := ⟨j - i - 1, by omega⟩
  clear hij
  induction d with
  | zero => exact step i (by omega) (by omega)
  | succ d ih =>
   have a1 := ih (by omega) step
   have a2 := step (i + 1 + d) (by omega) (by omega)
   exact Int.lt_trans a1 a2
def freeF (t : Int) (v : V) (q : Q) : V := if q.t ≤ t then q.v else v
def freeV (t : Int) (ps : List Q) : V := ps.foldl (freeF t) V.zero
def leastF (lo hi : Int) (v : V) (q : Q) : V := if lo < q.t ∧ q.t < hi then vminV v q.v else v
def leastV (lo hi : Int) (ps : List Q) : V := ps.foldl (leastF lo hi) (freeV lo ps)
def sleastF (lo hi : Int) (v : V) (q : Q) : V := if lo ≤ q.t ∧ q.t < hi then vminV v q.v else v
def sleastV (lo hi : Int) (ps : List Q) : V := ps.foldl (sleastF lo hi) (freeV lo ps)
theorem free_at {t : Int} : ∀ (ps : List Q) (v : V), ps.Pairwise (fun p q => p.t < q.t) → ∀ q ∈ ps, q.t = t → ps.foldl (freeF t) v = q.v
 | [], _, _, _, h, _ => by cases h
 | p :: r, v, hs, q, hq, ht => by
  rw [List.pairwise_cons] at hs
  have later : ∀ (r : List Q) (v : V), (∀ x ∈ r, t < x.t) → r.foldl (freeF t) v = v := by
   intro r
   induction r with
   | nil => intro v _; rfl
   | cons x r ih =>
    intro v h
    have hx := h x (by simp)
    rw [List.foldl_cons, freeF, if_neg (by omega)]
    exact ih v fun y hy => h y (by simp [hy])
  rw [List.foldl_cons]
  rcases List.mem_cons.1 hq with rfl | hq
  ·rw [freeF, if_pos (by omega)]
   exact later r _ fun x hx => by have := hs.1 x hx; omega
  ·exact free_at r _ hs.2 q hq ht
theorem vmin_self {v : V} (h : v.ok = true) : vminV v v = v := by
 unfold vminV validV minV
 simp [h]
theorem least_eq {lo hi : Int} : ∀ (ps : List Q) (v : V), ps.Pairwise (fun p q => p.t < q.t) → (∀ q ∈ ps, q.t = lo → v = q.v ∧ q.v.ok = true) → ps.foldl (leastF lo hi) v = ps.foldl (sleastF lo hi) v
 | [], _, _, _ => rfl
 | q :: r, v, hs, h => by
  rw [List.pairwise_cons] at hs
  rw [List.foldl_cons, List.foldl_cons]
  rcases Int.lt_trichotomy q.t lo with h1 | h1 | h1
  ·rw [leastF, if_neg (by omega), sleastF, if_neg (by omega)]
   exact least_eq r v hs.2 fun x hx => h x (by simp [hx])
  ·obtain ⟨e, ho⟩ := h q (by simp) h1
   have e1 : leastF lo hi v q = v := by rw [leastF, if_neg (by omega)]
   have e2 : sleastF lo hi v q = v := by
    unfold sleastF
    split
    ·rw [e, vmin_self ho]
    ·rfl
   rw [e1, e2]
   exact least_eq r v hs.2 fun x hx hx' => by have := hs.1 x hx; omega
  ·have e1 : leastF lo hi v q = sleastF lo hi v q := by
    unfold leastF sleastF
    by_cases h2 : q.t < hi
    ·rw [if_pos ⟨h1, h2⟩, if_pos ⟨by omega, h2⟩]
    ·rw [if_neg (by omega), if_neg (by omega)]
   rw [e1]
   exact least_eq r _ hs.2 fun x hx hx' => by have := hs.1 x hx; omega
theorem leastV_eq {lo hi : Int} {ps : List Q} (h : zAx ps = true) : leastV lo hi ps = sleastV lo hi ps := by
 obtain ⟨_, _, _, hok, hs⟩ := profOk_parts h
 refine least_eq ps _ hs fun q hq ht => ⟨free_at ps _ hs q hq ht, ?_⟩
 have := hok q hq
 unfold Q.ok at this
 simp only [Bool.and_eq_true] at this
 exact this.2
theorem flat_snoc (l : List Q) (q : Q) : flat (l ++ [q]) = flat l ++ [.int .i64 q.t, .int .i64 q.a, .int .i64 q.b, .int .i64 q.c] := by simp [flat, Q.cells]
end Go.Proofs.YtnphjhbfpoekpaaGreat
