import Derived.Test.YtnphjhbfpoekpaaGreatWlPl
import Derived.Test.YtnphjhbfpoekpaaGreatFiPl
namespace Go.Proofs.YtnphjhbfpoekpaaGreat
set_option linter.unusedSimpArgs false
set_option linter.unusedVariables false
set_option linter.unnecessarySimpa false
open Go.RowKit
def newSt (ps : List Int) (ns : List Q) (v : V) (d : Int) : St := ⟨ps, ns, List.replicate ns.length true, v, d, 0, [], [], []⟩
def noSt : St := ⟨[], [], [], V.zero, 0, 0, [], [], []⟩
def outSt (s : St) : St := if stateB s then s else noSt
theorem outSt_yes {s : St} (h : stateB s = true) : outSt s = s := by unfold outSt; rw [if_pos h]
theorem outSt_no {s : St} (h : stateB s = false) : outSt s = noSt := by unfold outSt; rw [h]; rfl
theorem noSt_own (w : World) (lo : Nat) : StOwn w lo ⟨none, none, none, none, none, none, 0, 0, 0, 0, 0, 0, 0, 0, 0, 0, 0, 0⟩ noSt [] :=
 ⟨Nat.zero_le _, Nat.zero_le _, Nat.zero_le _, Nat.zero_le _, Nat.zero_le _, Nat.zero_le _, Nat.zero_le _, own_nil _ _ _ _, own_nil _ _ _ _, own_nil _ _ _ _, own_nil _ _ _ _, OwnN.nil _ _, own_nil _ _ _ _, fun i x hx => by simp at hx⟩
theorem StOwn.sets {w : World} {lo b : Nat} (hb : b < lo) {a : SA} {s : St} {ss : List Value} (h : StOwn w lo a s ss) (vs : List Value) (o : Nat) : StOwn (w.setCells b o vs) lo a s ss :=
 ⟨h.n, h.m, h.nu, h.nk, h.nr, h.ne, h.kr, own_sets hb vs o h.par, own_sets hb vs o h.nodes, own_sets hb vs o h.up, own_sets hb vs o h.queue, OwnN.sets hb vs o h.runs, own_sets hb vs o h.ends, h.apart⟩
structure SN (w wr : World) (lo b : Nat) (A B : Option Addr) (n c m d : Nat) (ps : List Int) (ns : List Q) (v : V) (dep : Int) (U : Option Addr) (q cu : Nat) : Prop where
 bx : BX w wr b 77 [.slice A n c, .slice B m d, .slice U q cu, .int .i64 v.A, .int .i64 v.B, .int .i64 v.C, .int .i64 dep, .int .i64 0, .slice none 0 0, .slice none 0 0, .slice none 0 0]
 par : wr.ownsRow lo 3 1 (.slice A n c) n (ints ps)
 nodes : wr.ownsRow lo 199 4 (.slice B m d) m (flat ns)
 up : wr.ownsRow w.heap.size 4 1 (.slice U q cu) q (bools (List.replicate q true))
theorem SN.step {w wr w' : World} {lo b : Nat} {A B : Option Addr} {n c m d : Nat} {ps : List Int} {ns : List Q} {v : V} {dep : Int} {U : Option Addr} {q cu : Nat} (h : SN w wr lo b A B n c m d ps ns v dep U q cu) (hb : Below wr.heap.size wr w') : SN w w' lo b A B n c m d ps ns v dep U q cu :=
 ⟨h.bx.step hb, zAe h.par hb, zAe h.nodes hb, zAe h.up hb⟩
theorem SN.app {w wr w' : World} {lo b : Nat} {A B : Option Addr} {n c m d : Nat} {ps : List Int} {ns : List Q} {v : V} {dep : Int} {U U' : Option Addr} {q cu cu' : Nat} (h : SN w wr lo b A B n c m d ps ns v dep U q cu)
  (ho : w'.ownsRow w.heap.size 4 1 (.slice U' (q + 1) cu') (q + 1) (bools (List.replicate q true) ++ [.bool true])) (hg : wr.grownBy w' (Value.slice U q cu).ownBlock) : SN w (w'.setCell ⟨b, 2, none⟩ (.slice U' (q + 1) cu')) lo b A B n c m d ps ns v dep U' (q + 1) cu' := by
 have hx := BX.grown h.bx hg (zAm h.up h.bx.bx (by decide)) (fun j hj => own_ge h.up j hj)
 have hp := own_grown h.par hg (own_ap h.par h.up (by decide))
 have hq := own_grown h.nodes hg (own_ap h.nodes h.up (by decide))
 refine ⟨hx.set 2 _, zAo hp (zAm hp hx.bx (by decide)) _, zAo hq (zAm hq hx.bx (by decide)) _, ?_⟩
 have e : bools (List.replicate (q + 1) true) = bools (List.replicate q true) ++ [.bool true] := by rw [List.replicate_succ']; simp [bools]
 rw [e]
 exact zAo ho (zAm ho hx.bx (by decide)) _
theorem SN.own {w wr : World} {lo lo' b : Nat} {A B : Option Addr} {n c m d : Nat} {ps : List Int} {ns : List Q} {v : V} {dep : Int} {U : Option Addr} {cu : Nat} (h : SN w wr lo b A B n c m d ps ns v dep U m cu) (hn : n ≤ 1048576) (hm : m ≤ 1048576) (hl : ns.length = m) (h1 : lo' ≤ lo) (h2 : lo' ≤ w.heap.size) :
  StOwn wr lo' ⟨A, B, U, none, none, none, n, m, m, 0, 0, 0, c, d, cu, 0, 0, 0⟩ (newSt ps ns v dep) [] :=
 ⟨hn, hm, hm, Nat.zero_le _, Nat.zero_le _, Nat.zero_le _, Nat.zero_le _, zAn h.par h1, zAn h.nodes h1, by unfold newSt; rw [hl]; exact zAn h.up h2, own_nil _ _ _ _, OwnN.nil _ _, own_nil _ _ _ _, fun i x hx => by simp at hx⟩
theorem BX.far11 {w w1 : World} {b0 b : Nat} {t : TypeId} {cs : List Value} (h : BX w w1 b0 t cs) (hn : b0 ≠ b) (hb : w.heap.size ≤ b) (v0 v1 v2 v3 v4 v5 v6 v7 v8 v9 v10 : Value) : BX w (((((((((((w1.setCell ⟨b, 0, none⟩ (v0)).setCell ⟨b, 1, none⟩ (v1)).setCell ⟨b, 2, none⟩ (v2)).setCell ⟨b, 3, none⟩ (v3)).setCell ⟨b, 4, none⟩ (v4)).setCell ⟨b, 5, none⟩ (v5)).setCell ⟨b, 6, none⟩ (v6)).setCell ⟨b, 7, none⟩ (v7)).setCell ⟨b, 8, none⟩ (v8)).setCell ⟨b, 9, none⟩ (v9)).setCell ⟨b, 10, none⟩ (v10)) b0 t cs := BX.fars hn hb [v0, v1, v2, v3, v4, v5, v6, v7, v8, v9, v10] 0 h
theorem BX.set11 {w w1 : World} {b : Nat} {t : TypeId} {z0 z1 z2 z3 z4 z5 z6 z7 z8 z9 z10 : Value} (h : BX w w1 b t [z0, z1, z2, z3, z4, z5, z6, z7, z8, z9, z10]) (v0 v1 v2 v3 v4 v5 v6 v7 v8 v9 v10 : Value) : BX w (((((((((((w1.setCell ⟨b, 0, none⟩ (v0)).setCell ⟨b, 1, none⟩ (v1)).setCell ⟨b, 2, none⟩ (v2)).setCell ⟨b, 3, none⟩ (v3)).setCell ⟨b, 4, none⟩ (v4)).setCell ⟨b, 5, none⟩ (v5)).setCell ⟨b, 6, none⟩ (v6)).setCell ⟨b, 7, none⟩ (v7)).setCell ⟨b, 8, none⟩ (v8)).setCell ⟨b, 9, none⟩ (v9)).setCell ⟨b, 10, none⟩ (v10)) b t [v0, v1, v2, v3, v4, v5, v6, v7, v8, v9, v10] := BX.sets [v0, v1, v2, v3, v4, v5, v6, v7, v8, v9, v10] 0 h
theorem own_set11 {w1 : World} {b lo : Nat} {e t : TypeId} {size n : Nat} {u : Value} {xs : List Value} {cs : Array Value} {f : Nat × Nat} (h : w1.ownsRow lo e size u n xs) (hb : w1.heap[b]? = some (.cells cs t f)) (he : e ≠ t) (v0 v1 v2 v3 v4 v5 v6 v7 v8 v9 v10 : Value) : World.ownsRow (((((((((((w1.setCell ⟨b, 0, none⟩ (v0)).setCell ⟨b, 1, none⟩ (v1)).setCell ⟨b, 2, none⟩ (v2)).setCell ⟨b, 3, none⟩ (v3)).setCell ⟨b, 4, none⟩ (v4)).setCell ⟨b, 5, none⟩ (v5)).setCell ⟨b, 6, none⟩ (v6)).setCell ⟨b, 7, none⟩ (v7)).setCell ⟨b, 8, none⟩ (v8)).setCell ⟨b, 9, none⟩ (v9)).setCell ⟨b, 10, none⟩ (v10)) lo e size u n xs := by
 have hk := zAm h hb he
 exact zAo (zAo (zAo (zAo (zAo (zAo (zAo (zAo (zAo (zAo (zAo h hk _) hk _) hk _) hk _) hk _) hk _) hk _) hk _) hk _) hk _) hk _
theorem StOwn.set11 {w1 : World} {b lo : Nat} {a : SA} {s : St} {cs : Array Value} {f : Nat × Nat} (h : StOwn w1 lo a s []) (hb : w1.heap[b]? = some (.cells cs 77 f)) (v0 v1 v2 v3 v4 v5 v6 v7 v8 v9 v10 : Value) : StOwn (((((((((((w1.setCell ⟨b, 0, none⟩ (v0)).setCell ⟨b, 1, none⟩ (v1)).setCell ⟨b, 2, none⟩ (v2)).setCell ⟨b, 3, none⟩ (v3)).setCell ⟨b, 4, none⟩ (v4)).setCell ⟨b, 5, none⟩ (v5)).setCell ⟨b, 6, none⟩ (v6)).setCell ⟨b, 7, none⟩ (v7)).setCell ⟨b, 8, none⟩ (v8)).setCell ⟨b, 9, none⟩ (v9)).setCell ⟨b, 10, none⟩ (v10)) lo a s [] :=
 ⟨h.n, h.m, h.nu, h.nk, h.nr, h.ne, h.kr, own_set11 h.par hb (by decide) _ _ _ _ _ _ _ _ _ _ _, own_set11 h.nodes hb (by decide) _ _ _ _ _ _ _ _ _ _ _, own_set11 h.up hb (by decide) _ _ _ _ _ _ _ _ _ _ _, own_set11 h.queue hb (by decide) _ _ _ _ _ _ _ _ _ _ _, ⟨own_set11 h.runs.own hb (by decide) _ _ _ _ _ _ _ _ _ _ _, h.runs.len, h.runs.slen, fun k x p hx => by simp at hx, h.runs.apart⟩, own_set11 h.ends hb (by decide) _ _ _ _ _ _ _ _ _ _ _, h.apart⟩
theorem SN.start1 {w w1 : World} {lo : Nat} {A B : Option Addr} {n c m d : Nat} {ps : List Int} {ns : List Q} {v : V} {dep : Int} (hb : Below w.heap.size w w1) (hp : w1.ownsRow lo 3 1 (.slice A n c) n (ints ps)) (hq : w1.ownsRow lo 199 4 (.slice B m d) m (flat ns)) : SN w (w1.alloc (.cells #[.slice A n c, .slice B m d, .slice none 0 0, .int .i64 v.A, .int .i64 v.B, .int .i64 v.C, .int .i64 dep, .int .i64 0, .slice none 0 0, .slice none 0 0, .slice none 0 0] 77)) lo w1.heap.size A B n c m d ps ns v dep none 0 0 :=
 ⟨⟨zAk _ rfl, zAc hb (zAa _ _), hb.size⟩, zAe hp (zAa _ _), zAe hq (zAa _ _), own_nil _ _ _ _⟩
theorem SN.start2 {w w1 : World} {lo b : Nat} {A B : Option Addr} {n c m d : Nat} {ps : List Int} {ns : List Q} {v : V} {dep : Int} (hx : BX w w1 b 77 [.slice none 0 0, .slice none 0 0, .slice none 0 0, .int .i64 0, .int .i64 0, .int .i64 0, .int .i64 0, .int .i64 0, .slice none 0 0, .slice none 0 0, .slice none 0 0]) (hp : w1.ownsRow lo 3 1 (.slice A n c) n (ints ps)) (hq : w1.ownsRow lo 199 4 (.slice B m d) m (flat ns)) : SN w (((((((((((w1.setCell ⟨b, 0, none⟩ (.slice A n c)).setCell ⟨b, 1, none⟩ (.slice B m d)).setCell ⟨b, 2, none⟩ (.slice none 0 0)).setCell ⟨b, 3, none⟩ (.int .i64 v.A)).setCell ⟨b, 4, none⟩ (.int .i64 v.B)).setCell ⟨b, 5, none⟩ (.int .i64 v.C)).setCell ⟨b, 6, none⟩ (.int .i64 dep)).setCell ⟨b, 7, none⟩ (.int .i64 0)).setCell ⟨b, 8, none⟩ (.slice none 0 0)).setCell ⟨b, 9, none⟩ (.slice none 0 0)).setCell ⟨b, 10, none⟩ (.slice none 0 0)) lo b A B n c m d ps ns v dep none 0 0 :=
 ⟨hx.set11 _ _ _ _ _ _ _ _ _ _ _, own_set11 hp hx.bx (by decide) _ _ _ _ _ _ _ _ _ _ _, own_set11 hq hx.bx (by decide) _ _ _ _ _ _ _ _ _ _ _, own_nil _ _ _ _⟩
set_option maxHeartbeats 8000000 in
set_option maxRecDepth 20000 in
theorem StateNew_any (A B : Option Addr) (n c m d : Nat) (ps : List Int) (ns : List Q) (v : V) (dep : Int) (w : World) (hn : n ≤ 1048576) (hm : m ≤ 1048576) (hr : Rd w A n 1 (ints ps)) (hq : Rd w B m 4 (flat ns)) (hl : ∀ g, A = some ⟨g, 0, none⟩ → g < w.heap.size) (hl2 : ∀ g, B = some ⟨g, 0, none⟩ → g < w.heap.size) (hA : adr A n c) (hB : adr B m d) :
  Calls Tryz.prog 41 #[.agg #[.slice A n c, .slice B m d], .agg #[.int .i64 v.A, .int .i64 v.B, .int .i64 v.C], .int .i64 dep] w fun e w' => ∃ a', e = .returned (.tuple #[SA.v a' (outSt (newSt ps ns v dep)), .bool (stateB (newSt ps ns v dep))]) ∧ StOwn w' w.heap.size a' (outSt (newSt ps ns v dep)) [] ∧ Below w.heap.size w w' := by
 have HQL : Hid (ns.length = m) := Lib.hid (by have := hq.1; rw [flat_len] at this; omega)
 have HNM : Hid (n ≤ 1048576 ∧ m ≤ 1048576) := Lib.hid ⟨hn, hm⟩
 have hn9 : n ≤ 9223372036854775807 := by omega
 have hm9 : m ≤ 9223372036854775807 := by omega
 have HR := Lib.hid hr
 have HQ := Lib.hid hq
 have HL := Lib.hid hl
 have HL2 := Lib.hid hl2
 have HA := Lib.hid hA
 have HB := Lib.hid hB
 clear hr hq hl hl2 hA hB
 obtain ⟨iB, hiB, hzB1, hzB2, hzB3⟩ := info_parts infoB
 have BE : Below w.heap.size w (((w.alloc (.cells #[.slice A n c, .slice B m d] 26)).alloc (.cells #[.int .i64 v.A, .int .i64 v.B, .int .i64 v.C] 73)).alloc (.cells #[.slice none 0 0, .slice none 0 0, .slice none 0 0, .int .i64 0, .int .i64 0, .int .i64 0, .int .i64 0, .int .i64 0, .slice none 0 0, .slice none 0 0, .slice none 0 0] 77)) := zAc (zAc (zAa _ _) (zAa _ _)) (zAa _ _)
 have XT0 : Hid (BX w (((w.alloc (.cells #[.slice A n c, .slice B m d] 26)).alloc (.cells #[.int .i64 v.A, .int .i64 v.B, .int .i64 v.C] 73)).alloc (.cells #[.slice none 0 0, .slice none 0 0, .slice none 0 0, .int .i64 0, .int .i64 0, .int .i64 0, .int .i64 0, .int .i64 0, .slice none 0 0, .slice none 0 0, .slice none 0 0] 77)) (w.heap.size) 26 [.slice A n c, .slice B m d]) := Lib.hid ⟨zAu (zAu (zAk _ rfl) _) _, BE, Nat.le_refl _⟩
 have XV0 : Hid (BX w (((w.alloc (.cells #[.slice A n c, .slice B m d] 26)).alloc (.cells #[.int .i64 v.A, .int .i64 v.B, .int .i64 v.C] 73)).alloc (.cells #[.slice none 0 0, .slice none 0 0, .slice none 0 0, .int .i64 0, .int .i64 0, .int .i64 0, .int .i64 0, .int .i64 0, .slice none 0 0, .slice none 0 0, .slice none 0 0] 77)) (w.heap.size + 1) 73 [.int .i64 v.A, .int .i64 v.B, .int .i64 v.C]) := Lib.hid ⟨zAu (zAk _ (by simp)) _, BE, by omega⟩
 have XR0 : Hid (BX w (((w.alloc (.cells #[.slice A n c, .slice B m d] 26)).alloc (.cells #[.int .i64 v.A, .int .i64 v.B, .int .i64 v.C] 73)).alloc (.cells #[.slice none 0 0, .slice none 0 0, .slice none 0 0, .int .i64 0, .int .i64 0, .int .i64 0, .int .i64 0, .int .i64 0, .slice none 0 0, .slice none 0 0, .slice none 0 0] 77)) (w.heap.size + 1 + 1) 77 [.slice none 0 0, .slice none 0 0, .slice none 0 0, .int .i64 0, .int .i64 0, .int .i64 0, .int .i64 0, .int .i64 0, .slice none 0 0, .slice none 0 0, .slice none 0 0]) := Lib.hid ⟨zAk _ (by simp), BE, by omega⟩
 have hw0 : (((w.alloc (.cells #[.slice A n c, .slice B m d] 26)).alloc (.cells #[.int .i64 v.A, .int .i64 v.B, .int .i64 v.C] 73)).alloc (.cells #[.slice none 0 0, .slice none 0 0, .slice none 0 0, .int .i64 0, .int .i64 0, .int .i64 0, .int .i64 0, .int .i64 0, .slice none 0 0, .slice none 0 0, .slice none 0 0] 77)).heap.size = w.heap.size + 1 + 1 + 1 := by simp
 have HW0 := Lib.hid (Nat.le_of_eq hw0.symm)
 clear BE hw0
 go_enter Tryz.func41, Tryz.ntmps41
 go_upto_region 1 with fail
 generalize ((w.alloc (.cells #[.slice A n c, .slice B m d] 26)).alloc (.cells #[.int .i64 v.A, .int .i64 v.B, .int .i64 v.C] 73)).alloc (.cells #[.slice none 0 0, .slice none 0 0, .slice none 0 0, .int .i64 0, .int .i64 0, .int .i64 0, .int .i64 0, .int .i64 0, .slice none 0 0, .slice none 0 0, .slice none 0 0] 77) = w0 at *
 have k0 := zAb XT0.out.bx 0 rfl
 have k1 := zAb XT0.out.bx 1 rfl
 have kf := zAh XT0.out.bx
 have kl := zAf XT0.out.bx
 simp only [zgc, zga, zgb] at k0 k1
 have v0 := zAb XV0.out.bx 0 rfl
 have v1 := zAb XV0.out.bx 1 rfl
 have v2 := zAb XV0.out.bx 2 rfl
 have vf := zAh XV0.out.bx
 have vl := zAf XV0.out.bx
 simp only [zgc, zga, zgb] at v0 v1 v2
 have rl := zAf XR0.out.bx
 go_cut [8] (fun p9 wr => ∃ (b : Nat) (A1 B1 : Option Addr) (c1 d1 : Nat), p9 = .pointer (some ⟨b, 0, none⟩) ∧ SN w wr (w.heap.size + 1 + 1 + 1) b A1 B1 n c1 m d1 ps ns v dep none 0 0 ∧ BX w wr (w.heap.size) 26 [.slice A n c, .slice B m d] ∧ BX w wr (w.heap.size + 1 + 1) 77 [.slice none 0 0, .slice none 0 0, .slice none 0 0, .int .i64 0, .int .i64 0, .int .i64 0, .int .i64 0, .int .i64 0, .slice none 0 0, .slice none 0 0, .slice none 0 0] ∧ w.heap.size + 1 + 1 < b)
 case first =>
  go_region_held3 (fun w' => w'.cell? ⟨w.heap.size, 0, none⟩ = some (.slice A n c) ∧ w'.cell? ⟨w.heap.size, 1, none⟩ = some (.slice B m d) ∧ w'.cell? ⟨w.heap.size + 1, 0, none⟩ = some (.int .i64 v.A) ∧ w'.cell? ⟨w.heap.size + 1, 1, none⟩ = some (.int .i64 v.B) ∧ w'.cell? ⟨w.heap.size + 1, 2, none⟩ = some (.int .i64 v.C)) (simp [go_sem, *, World.cell?_alloc_some, World.cell?_setCell_far, Nat.lt_add_right, Nat.ne_of_gt]) (first | (go_at_call 120; refine (copyTopo_any A B n c m d ps ns _ HNM.out.1 HNM.out.2 (HR.out.below HL.out (by repeat (first | exact XT0.out.bel | (refine zAc ?_ (zAa _ _)) | refine Below.drew ?_))) (HQ.out.below HL2.out (by repeat (first | exact XT0.out.bel | (refine zAc ?_ (zAa _ _)) | refine Below.drew ?_))) (zAi HL.out (by repeat (first | exact XT0.out.bel | (refine zAc ?_ (zAa _ _)) | refine Below.drew ?_))) (zAi HL2.out (by repeat (first | exact XT0.out.bel | (refine zAc ?_ (zAa _ _)) | refine Below.drew ?_))) HA.out HB.out).mono ?_; rintro e w1 ⟨u1, u2, rfl, oA, oB, hb1⟩; obtain ⟨A1, c1, rfl, _⟩ := zAt oA; obtain ⟨B1, d1, rfl, _⟩ := zAt oB; have OA1 := Lib.hid oA; have OB1 := Lib.hid oB; have hs1 := hb1.size; (try simp at hs1); have hk1 := fun o => hb1.cell (p := ⟨w.heap.size, o, none⟩) zOm; have hf1 := fun o => hb1.frozen (p := ⟨w.heap.size, o, none⟩) zOm; have hj1 := fun o => hb1.cell (p := ⟨w.heap.size + 1, o, none⟩) zOm; have hi1 := fun o => hb1.frozen (p := ⟨w.heap.size + 1, o, none⟩) zOm; (try (have hxy : w0.heap.size < w1.heap.size := (by omega); have hx1 := fun o => hb1.cell (p := ⟨w0.heap.size, o, none⟩) zOm; have hy1 := fun o => hb1.frozen (p := ⟨w0.heap.size, o, none⟩) zOm)); clear oA oB))
  all_goals (go_wp2; go_meet)
  case rel =>
   have D1 := Lib.hid (show Below w0.heap.size w0 w1 from zAc ((Below.refl w0.heap.size w0).drew) hb1)
   have l1 := HW0.out
   have l2 := D1.out.size
   refine ⟨_, A1, B1, c1, d1, rfl, SN.start1 (zAc XT0.out.bel D1.out) (zAn OA1.out ?_) (zAn OB1.out ?_), (XT0.out.step D1.out).step (zAa _ _), (XR0.out.step D1.out).step (zAa _ _), ?_⟩
   all_goals (first | omega | (simp <;> omega))
  case rel =>
   have D1 := Lib.hid (show Below w0.heap.size w0 w1 from zAc (zAc (Below.refl _ _) (zAa _ _)).drew hb1)
   have l1 := HW0.out
   have l2 := D1.out.size
   have BN := Lib.hid (show BX w w1 w0.heap.size 77 [.slice none 0 0, .slice none 0 0, .slice none 0 0, .int .i64 0, .int .i64 0, .int .i64 0, .int .i64 0, .int .i64 0, .slice none 0 0, .slice none 0 0, .slice none 0 0] from ⟨zAg (heap_at9d _ _) hb1, zAc XT0.out.bel D1.out, by omega⟩)
   refine ⟨_, A1, B1, c1, d1, rfl, SN.start2 BN.out (zAn OA1.out ?_) (zAn OB1.out ?_), (XT0.out.step D1.out).far11 ?_ ?_ _ _ _ _ _ _ _ _ _ _ _, (XR0.out.step D1.out).far11 ?_ ?_ _ _ _ _ _ _ _ _ _ _ _, ?_⟩
   all_goals (first | omega | (simp <;> omega))
 case rest =>
 obtain ⟨w2, rfl⟩ : ∃ x, x = wc := ⟨wc, rfl⟩
 obtain ⟨bn, A1, B1, c1, d1, rfl, S9, T9, R9, hbn⟩ := hcut
 clear k0 k1 kf kl v0 v1 v2 vf vl rl XT0 XV0 XR0 HW0
 have S0 := Lib.hid S9
 have XR0 := Lib.hid R9
 have XT0 := Lib.hid T9
 clear S9 R9 T9
 have k1 := zAb XT0.out.bx 1 rfl
 have kf := zAh XT0.out.bx
 have kl := zAf XT0.out.bx
 simp only [zgc, zga, zgb] at k1
 go_wp2
 clear k1 kf kl XT0
 go_loopw [17] (fun i wr => ∃ (q : Nat) (U : Option Addr) (cu : Nat), q ≤ m ∧ i = .int .i64 q ∧ SN w wr (w.heap.size + 1 + 1 + 1) bn A1 B1 n c1 m d1 ps ns v dep U q cu ∧ BX w wr (w.heap.size + 1 + 1) 77 [.slice none 0 0, .slice none 0 0, .slice none 0 0, .int .i64 0, .int .i64 0, .int .i64 0, .int .i64 0, .int .i64 0, .slice none 0 0, .slice none 0 0, .slice none 0 0]) (fun i _ => m - (intOf i).toNat)
 case atStart => exact ⟨0, none, 0, Nat.zero_le _, rfl, S0.out, XR0.out⟩
 case round =>
 clear S0 XR0
 obtain ⟨q, U, cu, hq, rfl, S', XR'⟩ := hrel
 obtain ⟨wo, rfl⟩ : ∃ x, x = wr := ⟨wr, rfl⟩
 have S4 := Lib.hid S'
 have XR4 := Lib.hid XR'
 clear S' XR'
 by_cases hlt : q < m
 ·have hlt' : (q : Int) < m := by omega
  have k2 := zAb S4.out.bx.bx 2 rfl
  have kf := zAh S4.out.bx.bx
  have kl := zAf S4.out.bx.bx
  simp only [zgc, zga, zgb] at k2
  go_wp2_with (at_builtin; refine zAw rfl _ _ 27 rfl w.heap.size 4 iB (.bool false) 1 1 Tryz.underlying27 hiB hzB1 hzB2 hzB3 rfl (by decide) (.slice U q cu) q (bools (List.replicate q true)) rfl ?ca (some ⟨wo.heap.size, 0, none⟩) 1 1 [.bool true] rfl (Or.inr ⟨_, rfl⟩) ?cb ?cc ?cd ?ce ?cf ?_)
  case ca => exact zAe S4.out.up (zAa _ _)
  case cb => exact zAv (own_lit (lo := 0) (cs := [.bool true]) (n := 1) (size := 1) (e := 4) (zAk _ rfl) rfl (by decide) (Nat.zero_le _))
  case cc => intro u hu; simp only [List.mem_cons, List.not_mem_nil, or_false] at hu; rcases hu with rfl; rfl
  case cd => unfold maxLen; omega
  case ce => omega
  case cf => have := S4.out.bx.bel.size; first | omega | (simp <;> omega)
  intro vZ wZ ownZ hgZ hneZ hatZ
  obtain ⟨UZ, cuZ, rfl, _⟩ := zAt ownZ
  have S5 := Lib.hid (S4.out.step (zAa wo (.cells #[.bool true] 4)))
  have XR5 := Lib.hid (XR4.out.step (zAa wo (.cells #[.bool true] 4)))
  have SZ := Lib.hid (S5.out.app ownZ hgZ)
  have XRZ := Lib.hid ((BX.grown XR5.out hgZ (zAm S5.out.up XR5.out.bx (by decide)) (fun j hj => own_ge S5.out.up j hj)).far (b' := bn) (by omega) (by omega) 2 (.slice UZ (q + 1) cuZ))
  have kz := zAr S5.out.bx.bx hgZ (zAm S5.out.up S5.out.bx.bx (by decide))
  have kz2 := zAb kz 2 rfl
  have kzf := zAh kz
  have kzl := zAf kz
  simp only [zgc, zga, zgb] at kz2
  clear ownZ hgZ hneZ hatZ kz S4 XR4 S5 XR5 k2 kf kl
  go_wp2
  exact ⟨⟨q + 1, UZ, cuZ, by omega, by go_num, SZ.out, XRZ.out⟩, by simp [intOf]; omega⟩
 ·obtain rfl : m = q := by omega
  have hlt' : ¬ ((m : Nat) : Int) < m := by omega
  have ST4 := Lib.hid (S4.out.own (lo' := w.heap.size) HNM.out.1 HNM.out.2 HQL.out (by omega) (by omega))
  have XS4 := Lib.hid S4.out.bx
  clear S4
  have k0 := zAb XS4.out.bx 0 rfl
  have k1 := zAb XS4.out.bx 1 rfl
  have k2 := zAb XS4.out.bx 2 rfl
  have k3 := zAb XS4.out.bx 3 rfl
  have k4 := zAb XS4.out.bx 4 rfl
  have k5 := zAb XS4.out.bx 5 rfl
  have k6 := zAb XS4.out.bx 6 rfl
  have k7 := zAb XS4.out.bx 7 rfl
  have k8 := zAb XS4.out.bx 8 rfl
  have k9 := zAb XS4.out.bx 9 rfl
  have k10 := zAb XS4.out.bx 10 rfl
  have kf := zAh XS4.out.bx
  have kl := zAf XS4.out.bx
  simp only [zgc, zga, zgb] at k0 k1 k2 k3 k4 k5 k6 k7 k8 k9 k10
  go_wp2_with fail
  refine (StateOk_any ⟨A1, B1, U, none, none, none, n, m, m, 0, 0, 0, c1, d1, cu, 0, 0, 0⟩ (newSt ps ns v dep) [] _ ST4.out.rd).mono ?_
  rintro e w7 ⟨rfl, hb7⟩
  have XS7 := Lib.hid (XS4.out.step hb7)
  have XR7 := Lib.hid (XR4.out.step hb7)
  have ST7 := Lib.hid (ST4.out.bel hb7)
  clear hb7 XS4 XR4 ST4 k0 k1 k2 k3 k4 k5 k6 k7 k8 k9 k10 kf kl
  cases hs : stateB (newSt ps ns v dep)
  ·have HS := Lib.hid hs
   have HO : Hid (outSt (newSt ps ns v dep) = noSt) := Lib.hid (outSt_no hs)
   clear hs
   have r0 := zAb XR7.out.bx 0 rfl
   have r1 := zAb XR7.out.bx 1 rfl
   have r2 := zAb XR7.out.bx 2 rfl
   have r3 := zAb XR7.out.bx 3 rfl
   have r4 := zAb XR7.out.bx 4 rfl
   have r5 := zAb XR7.out.bx 5 rfl
   have r6 := zAb XR7.out.bx 6 rfl
   have r7 := zAb XR7.out.bx 7 rfl
   have r8 := zAb XR7.out.bx 8 rfl
   have r9 := zAb XR7.out.bx 9 rfl
   have r10 := zAb XR7.out.bx 10 rfl
   have rf := zAh XR7.out.bx
   have rl := zAf XR7.out.bx
   simp only [zgc, zga, zgb] at r0 r1 r2 r3 r4 r5 r6 r7 r8 r9 r10
   have XW : Hid (BX w (((((((((((w7.setCell ⟨w.heap.size + 1 + 1, 0, none⟩ (.slice none 0 0)).setCell ⟨w.heap.size + 1 + 1, 1, none⟩ (.slice none 0 0)).setCell ⟨w.heap.size + 1 + 1, 2, none⟩ (.slice none 0 0)).setCell ⟨w.heap.size + 1 + 1, 3, none⟩ (.int .i64 0)).setCell ⟨w.heap.size + 1 + 1, 4, none⟩ (.int .i64 0)).setCell ⟨w.heap.size + 1 + 1, 5, none⟩ (.int .i64 0)).setCell ⟨w.heap.size + 1 + 1, 6, none⟩ (.int .i64 0)).setCell ⟨w.heap.size + 1 + 1, 7, none⟩ (.int .i64 0)).setCell ⟨w.heap.size + 1 + 1, 8, none⟩ (.slice none 0 0)).setCell ⟨w.heap.size + 1 + 1, 9, none⟩ (.slice none 0 0)).setCell ⟨w.heap.size + 1 + 1, 10, none⟩ (.slice none 0 0)) (w.heap.size + 1 + 1) 77 [.slice none 0 0, .slice none 0 0, .slice none 0 0, .int .i64 0, .int .i64 0, .int .i64 0, .int .i64 0, .int .i64 0, .slice none 0 0, .slice none 0 0, .slice none 0 0]) := Lib.hid (XR7.out.set11 _ _ _ _ _ _ _ _ _ _ _)
   have SW : Hid (StOwn (((((((((((w7.setCell ⟨w.heap.size + 1 + 1, 0, none⟩ (.slice none 0 0)).setCell ⟨w.heap.size + 1 + 1, 1, none⟩ (.slice none 0 0)).setCell ⟨w.heap.size + 1 + 1, 2, none⟩ (.slice none 0 0)).setCell ⟨w.heap.size + 1 + 1, 3, none⟩ (.int .i64 0)).setCell ⟨w.heap.size + 1 + 1, 4, none⟩ (.int .i64 0)).setCell ⟨w.heap.size + 1 + 1, 5, none⟩ (.int .i64 0)).setCell ⟨w.heap.size + 1 + 1, 6, none⟩ (.int .i64 0)).setCell ⟨w.heap.size + 1 + 1, 7, none⟩ (.int .i64 0)).setCell ⟨w.heap.size + 1 + 1, 8, none⟩ (.slice none 0 0)).setCell ⟨w.heap.size + 1 + 1, 9, none⟩ (.slice none 0 0)).setCell ⟨w.heap.size + 1 + 1, 10, none⟩ (.slice none 0 0)) w.heap.size ⟨none, none, none, none, none, none, 0, 0, 0, 0, 0, 0, 0, 0, 0, 0, 0, 0⟩ (outSt (newSt ps ns v dep)) []) := Lib.hid (by rw [HO.out]; exact noSt_own _ _)
   go_wp2
   (try go_light)
   generalize ((((((((((w7.setCell ⟨w.heap.size + 1 + 1, 0, none⟩ (.slice none 0 0)).setCell ⟨w.heap.size + 1 + 1, 1, none⟩ (.slice none 0 0)).setCell ⟨w.heap.size + 1 + 1, 2, none⟩ (.slice none 0 0)).setCell ⟨w.heap.size + 1 + 1, 3, none⟩ (.int .i64 0)).setCell ⟨w.heap.size + 1 + 1, 4, none⟩ (.int .i64 0)).setCell ⟨w.heap.size + 1 + 1, 5, none⟩ (.int .i64 0)).setCell ⟨w.heap.size + 1 + 1, 6, none⟩ (.int .i64 0)).setCell ⟨w.heap.size + 1 + 1, 7, none⟩ (.int .i64 0)).setCell ⟨w.heap.size + 1 + 1, 8, none⟩ (.slice none 0 0)).setCell ⟨w.heap.size + 1 + 1, 9, none⟩ (.slice none 0 0)).setCell ⟨w.heap.size + 1 + 1, 10, none⟩ (.slice none 0 0) = W at *
   have f0 := zAb XW.out.bx 0 rfl
   have f1 := zAb XW.out.bx 1 rfl
   have f2 := zAb XW.out.bx 2 rfl
   have f3 := zAb XW.out.bx 3 rfl
   have f4 := zAb XW.out.bx 4 rfl
   have f5 := zAb XW.out.bx 5 rfl
   have f6 := zAb XW.out.bx 6 rfl
   have f7 := zAb XW.out.bx 7 rfl
   have f8 := zAb XW.out.bx 8 rfl
   have f9 := zAb XW.out.bx 9 rfl
   have f10 := zAb XW.out.bx 10 rfl
   have ff := zAh XW.out.bx
   have fl := zAf XW.out.bx
   simp only [zgc, zga, zgb] at f0 f1 f2 f3 f4 f5 f6 f7 f8 f9 f10
   refine bodyPost_ret (v := .tuple #[.agg #[.slice none 0 0, .slice none 0 0, .slice none 0 0, .int .i64 0, .int .i64 0, .int .i64 0, .int .i64 0, .int .i64 0, .slice none 0 0, .slice none 0 0, .slice none 0 0], .bool false]) (by simp [results, Tryz.results41, go_sem, f0, f1, f2, f3, f4, f5, f6, f7, f8, f9, f10]) rfl ?_
   exact ⟨⟨none, none, none, none, none, none, 0, 0, 0, 0, 0, 0, 0, 0, 0, 0, 0, 0⟩, by rw [HS.out, HO.out]; rfl, SW.out, XW.out.bel⟩
  ·have HS := Lib.hid hs
   have HO : Hid (outSt (newSt ps ns v dep) = newSt ps ns v dep) := Lib.hid (outSt_yes hs)
   clear hs
   have k0 := zAb XS7.out.bx 0 rfl
   have k1 := zAb XS7.out.bx 1 rfl
   have k2 := zAb XS7.out.bx 2 rfl
   have k3 := zAb XS7.out.bx 3 rfl
   have k4 := zAb XS7.out.bx 4 rfl
   have k5 := zAb XS7.out.bx 5 rfl
   have k6 := zAb XS7.out.bx 6 rfl
   have k7 := zAb XS7.out.bx 7 rfl
   have k8 := zAb XS7.out.bx 8 rfl
   have k9 := zAb XS7.out.bx 9 rfl
   have k10 := zAb XS7.out.bx 10 rfl
   have kf := zAh XS7.out.bx
   have kl := zAf XS7.out.bx
   simp only [zgc, zga, zgb] at k0 k1 k2 k3 k4 k5 k6 k7 k8 k9 k10
   have r0 := zAb XR7.out.bx 0 rfl
   have r1 := zAb XR7.out.bx 1 rfl
   have r2 := zAb XR7.out.bx 2 rfl
   have r3 := zAb XR7.out.bx 3 rfl
   have r4 := zAb XR7.out.bx 4 rfl
   have r5 := zAb XR7.out.bx 5 rfl
   have r6 := zAb XR7.out.bx 6 rfl
   have r7 := zAb XR7.out.bx 7 rfl
   have r8 := zAb XR7.out.bx 8 rfl
   have r9 := zAb XR7.out.bx 9 rfl
   have r10 := zAb XR7.out.bx 10 rfl
   have rf := zAh XR7.out.bx
   have rl := zAf XR7.out.bx
   simp only [zgc, zga, zgb] at r0 r1 r2 r3 r4 r5 r6 r7 r8 r9 r10
   have XW : Hid (BX w (((((((((((w7.setCell ⟨w.heap.size + 1 + 1, 0, none⟩ (.slice A1 n c1)).setCell ⟨w.heap.size + 1 + 1, 1, none⟩ (.slice B1 m d1)).setCell ⟨w.heap.size + 1 + 1, 2, none⟩ (.slice U m cu)).setCell ⟨w.heap.size + 1 + 1, 3, none⟩ (.int .i64 v.A)).setCell ⟨w.heap.size + 1 + 1, 4, none⟩ (.int .i64 v.B)).setCell ⟨w.heap.size + 1 + 1, 5, none⟩ (.int .i64 v.C)).setCell ⟨w.heap.size + 1 + 1, 6, none⟩ (.int .i64 dep)).setCell ⟨w.heap.size + 1 + 1, 7, none⟩ (.int .i64 0)).setCell ⟨w.heap.size + 1 + 1, 8, none⟩ (.slice none 0 0)).setCell ⟨w.heap.size + 1 + 1, 9, none⟩ (.slice none 0 0)).setCell ⟨w.heap.size + 1 + 1, 10, none⟩ (.slice none 0 0)) (w.heap.size + 1 + 1) 77 [.slice A1 n c1, .slice B1 m d1, .slice U m cu, .int .i64 v.A, .int .i64 v.B, .int .i64 v.C, .int .i64 dep, .int .i64 0, .slice none 0 0, .slice none 0 0, .slice none 0 0]) := Lib.hid (XR7.out.set11 _ _ _ _ _ _ _ _ _ _ _)
   have SW : Hid (StOwn (((((((((((w7.setCell ⟨w.heap.size + 1 + 1, 0, none⟩ (.slice A1 n c1)).setCell ⟨w.heap.size + 1 + 1, 1, none⟩ (.slice B1 m d1)).setCell ⟨w.heap.size + 1 + 1, 2, none⟩ (.slice U m cu)).setCell ⟨w.heap.size + 1 + 1, 3, none⟩ (.int .i64 v.A)).setCell ⟨w.heap.size + 1 + 1, 4, none⟩ (.int .i64 v.B)).setCell ⟨w.heap.size + 1 + 1, 5, none⟩ (.int .i64 v.C)).setCell ⟨w.heap.size + 1 + 1, 6, none⟩ (.int .i64 dep)).setCell ⟨w.heap.size + 1 + 1, 7, none⟩ (.int .i64 0)).setCell ⟨w.heap.size + 1 + 1, 8, none⟩ (.slice none 0 0)).setCell ⟨w.heap.size + 1 + 1, 9, none⟩ (.slice none 0 0)).setCell ⟨w.heap.size + 1 + 1, 10, none⟩ (.slice none 0 0)) w.heap.size ⟨A1, B1, U, none, none, none, n, m, m, 0, 0, 0, c1, d1, cu, 0, 0, 0⟩ (outSt (newSt ps ns v dep)) []) := Lib.hid (by rw [HO.out]; exact ST7.out.set11 XR7.out.bx _ _ _ _ _ _ _ _ _ _ _)
   go_wp2
   (try go_light)
   generalize ((((((((((w7.setCell ⟨w.heap.size + 1 + 1, 0, none⟩ (.slice A1 n c1)).setCell ⟨w.heap.size + 1 + 1, 1, none⟩ (.slice B1 m d1)).setCell ⟨w.heap.size + 1 + 1, 2, none⟩ (.slice U m cu)).setCell ⟨w.heap.size + 1 + 1, 3, none⟩ (.int .i64 v.A)).setCell ⟨w.heap.size + 1 + 1, 4, none⟩ (.int .i64 v.B)).setCell ⟨w.heap.size + 1 + 1, 5, none⟩ (.int .i64 v.C)).setCell ⟨w.heap.size + 1 + 1, 6, none⟩ (.int .i64 dep)).setCell ⟨w.heap.size + 1 + 1, 7, none⟩ (.int .i64 0)).setCell ⟨w.heap.size + 1 + 1, 8, none⟩ (.slice none 0 0)).setCell ⟨w.heap.size + 1 + 1, 9, none⟩ (.slice none 0 0)).setCell ⟨w.heap.size + 1 + 1, 10, none⟩ (.slice none 0 0) = W at *
   have f0 := zAb XW.out.bx 0 rfl
   have f1 := zAb XW.out.bx 1 rfl
   have f2 := zAb XW.out.bx 2 rfl
   have f3 := zAb XW.out.bx 3 rfl
   have f4 := zAb XW.out.bx 4 rfl
   have f5 := zAb XW.out.bx 5 rfl
   have f6 := zAb XW.out.bx 6 rfl
   have f7 := zAb XW.out.bx 7 rfl
   have f8 := zAb XW.out.bx 8 rfl
   have f9 := zAb XW.out.bx 9 rfl
   have f10 := zAb XW.out.bx 10 rfl
   have ff := zAh XW.out.bx
   have fl := zAf XW.out.bx
   simp only [zgc, zga, zgb] at f0 f1 f2 f3 f4 f5 f6 f7 f8 f9 f10
   refine bodyPost_ret (v := .tuple #[.agg #[.slice A1 n c1, .slice B1 m d1, .slice U m cu, .int .i64 v.A, .int .i64 v.B, .int .i64 v.C, .int .i64 dep, .int .i64 0, .slice none 0 0, .slice none 0 0, .slice none 0 0], .bool true]) (by simp [results, Tryz.results41, go_sem, f0, f1, f2, f3, f4, f5, f6, f7, f8, f9, f10]) rfl ?_
   exact ⟨⟨A1, B1, U, none, none, none, n, m, m, 0, 0, 0, c1, d1, cu, 0, 0, 0⟩, by rw [HS.out, HO.out]; rfl, SW.out, XW.out.bel⟩
end Go.Proofs.YtnphjhbfpoekpaaGreat
