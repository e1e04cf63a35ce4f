import Derived.Test.YtnphjhbfpoekpaaGreatWnPl
import Derived.Test.YtnphjhbfpoekpaaGreatWoPl
import Derived.Test.YtnphjhbfpoekpaaGreatWrPl
import Derived.Test.YtnphjhbfpoekpaaGreatVkPl
import Derived.Deep.RegionHeld3
namespace Go.Proofs.YtnphjhbfpoekpaaGreat
set_option linter.unusedSimpArgs false
set_option linter.unusedVariables false
set_option linter.unnecessarySimpa false
open Go.RowKit
theorem StOwn.fr {S : Nat → Prop} {w w' : World} {lo : Nat} {a : SA} {s : St} (h : StOwn w lo a s []) (hf : Fr S w w') (hn : ∀ k, atS a [] k → ¬ S k) : StOwn w' lo a s [] :=
 ⟨h.n, h.m, h.nu, h.nk, h.nr, h.ne, h.kr, own_fr h.par hf (fun k hk => hn k (Or.inl (Or.inl (Or.inl (Or.inl (Or.inl (own_atB h.par hk))))))), own_fr h.nodes hf (fun k hk => hn k (Or.inl (Or.inl (Or.inl (Or.inl (Or.inr (own_atB h.nodes hk))))))), own_fr h.up hf (fun k hk => hn k (Or.inl (Or.inl (Or.inl (Or.inr (own_atB h.up hk)))))), own_fr h.queue hf (fun k hk => hn k (Or.inl (Or.inl (Or.inr (own_atB h.queue hk))))), h.runs.fr hf (fun k hk => hn k (Or.inl (Or.inr hk))), own_fr h.ends hf (fun k hk => hn k (Or.inr (own_atB h.ends hk))), h.apart⟩
theorem StOwn.same {w w' : World} {lo lo' : Nat} {a a' : SA} {s : St} {ss ss' : List Value} (h : StOwn w lo a s ss) (h' : StOwn w' lo' a' s ss') : a'.n = a.n ∧ a'.m = a.m ∧ a'.nu = a.nu ∧ a'.nk = a.nk ∧ a'.nr = a.nr ∧ a'.ne = a.ne := by
 have h1 := h.par.1; have g1 := h'.par.1
 have h2 := h.nodes.1; have g2 := h'.nodes.1
 have h3 := h.up.1; have g3 := h'.up.1
 have h4 := h.queue.1; have g4 := h'.queue.1
 have h5 := h.runs.len; have g5 := h'.runs.len
 have h6 := h.ends.1; have g6 := h'.ends.1
 omega
theorem StOwn.zero {w : World} {lo : Nat} {a : SA} {s : St} {ss : List Value} (h : StOwn w lo a s ss) (hz : s.queue = [] ∧ s.runs = [] ∧ s.ends = []) : a.nk = 0 ∧ a.nr = 0 ∧ a.ne = 0 := by
 have h4 := h.queue.1
 have h5 := h.runs.len
 have h6 := h.ends.1
 rw [hz.1] at h4
 rw [hz.2.1] at h5
 rw [hz.2.2] at h6
 simp only [jflat, eflat, List.flatMap_nil, List.length_nil] at h4 h5 h6
 omega
theorem outSt_nil (ps : List Int) (ns : List Q) (v : V) (d : Int) : (outSt (newSt ps ns v d)).queue = [] ∧ (outSt (newSt ps ns v d)).runs = [] ∧ (outSt (newSt ps ns v d)).ends = [] := by
 unfold outSt; split <;> exact ⟨rfl, rfl, rfl⟩
structure StMk (w : World) (A B U : Option Addr) (n m nu : Nat) : Prop where
 par : Rd w A n 1 (imarks 1 (n * 1))
 nodes : Rd w B m 4 (imarks (1 + 1 * (n : Int)) (m * 4))
 up : Rd w U nu 1 (bmarks (1 + (n : Int) + 4 * (m : Int)) nu)
 lA : ∀ g, A = some ⟨g, 0, none⟩ → g < w.heap.size
 lB : ∀ g, B = some ⟨g, 0, none⟩ → g < w.heap.size
 lU : ∀ g, U = some ⟨g, 0, none⟩ → g < w.heap.size
theorem StMk.bel {w w' : World} {A B U : Option Addr} {n m nu : Nat} (h : StMk w A B U n m nu) (hb : Below w.heap.size w w') : StMk w' A B U n m nu :=
 ⟨h.par.below h.lA hb, h.nodes.below h.lB hb, h.up.below h.lU hb, zAi h.lA hb, zAi h.lB hb, zAi h.lU hb⟩
structure TpOwn (w : World) (lo : Nat) (A B : Option Addr) (n c m d : Nat) (ps : List Int) (ns : List Q) : Prop where
 par : w.ownsRow lo 3 1 (.slice A n c) n (ints ps)
 nodes : w.ownsRow lo 199 4 (.slice B m d) m (flat ns)
theorem TpOwn.bel {w w' : World} {lo : Nat} {A B : Option Addr} {n c m d : Nat} {ps : List Int} {ns : List Q} (h : TpOwn w lo A B n c m d ps ns) (hb : Below w.heap.size w w') : TpOwn w' lo A B n c m d ps ns := ⟨zAe h.par hb, zAe h.nodes hb⟩
theorem StOwn.nbox {w : World} {lo : Nat} {a : SA} {s : St} (h : StOwn w lo a s []) {b : Nat} {cs : Array Value} {f : Nat × Nat} (hb : w.heap[b]? = some (.cells cs 77 f)) : ¬ atS a [] b := by
 rintro (((((h1 | h1) | h1) | h1) | (h1 | ⟨i, x, hi, hx, h1⟩)) | h1)
 ·exact own_nb h.par hb (by decide) h1
 ·exact own_nb h.nodes hb (by decide) h1
 ·exact own_nb h.up hb (by decide) h1
 ·exact own_nb h.queue hb (by decide) h1
 ·exact own_nb h.runs.own hb (by decide) h1
 ·simp at hx
 ·exact own_nb h.ends hb (by decide) h1
theorem hset11 {w1 : World} {b : Nat} {z0 z1 z2 z3 z4 z5 z6 z7 z8 z9 z10 v0 v1 v2 v3 v4 v5 v6 v7 v8 v9 v10 : Value} {t : TypeId} {f : Nat × Nat} (h : w1.heap[b]? = some (.cells #[z0, z1, z2, z3, z4, z5, z6, z7, z8, z9, z10] t f)) :
  (((((((((((w1.setCell ⟨b, 0, none⟩ (v0)).setCell ⟨b, 1, none⟩ (v1)).setCell ⟨b, 2, none⟩ (v2)).setCell ⟨b, 3, none⟩ (v3)).setCell ⟨b, 4, none⟩ (v4)).setCell ⟨b, 5, none⟩ (v5)).setCell ⟨b, 6, none⟩ (v6)).setCell ⟨b, 7, none⟩ (v7)).setCell ⟨b, 8, none⟩ (v8)).setCell ⟨b, 9, none⟩ (v9)).setCell ⟨b, 10, none⟩ (v10)).heap[b]? = some (.cells #[v0, v1, v2, v3, v4, v5, v6, v7, v8, v9, v10] t f) := by
 have h1 := zAq (i := 10) (v := v10) (zAq (i := 9) (v := v9) (zAq (i := 8) (v := v8) (zAq (i := 7) (v := v7) (zAq (i := 6) (v := v6) (zAq (i := 5) (v := v5) (zAq (i := 4) (v := v4) (zAq (i := 3) (v := v3) (zAq (i := 2) (v := v2) (zAq (i := 1) (v := v1) (zAq (i := 0) (v := v0) h))))))))))
 simpa using h1
theorem bel_set11 {w w1 : World} {lo b : Nat} (h : Below lo w w1) (hb : lo ≤ b) (v0 v1 v2 v3 v4 v5 v6 v7 v8 v9 v10 : Value) : Below lo w (((((((((((w1.setCell ⟨b, 0, none⟩ (v0)).setCell ⟨b, 1, none⟩ (v1)).setCell ⟨b, 2, none⟩ (v2)).setCell ⟨b, 3, none⟩ (v3)).setCell ⟨b, 4, none⟩ (v4)).setCell ⟨b, 5, none⟩ (v5)).setCell ⟨b, 6, none⟩ (v6)).setCell ⟨b, 7, none⟩ (v7)).setCell ⟨b, 8, none⟩ (v8)).setCell ⟨b, 9, none⟩ (v9)).setCell ⟨b, 10, none⟩ (v10)) := bel_sets hb [v0, v1, v2, v3, v4, v5, v6, v7, v8, v9, v10] 0 h
set_option maxHeartbeats 16000000 in
set_option maxRecDepth 20000 in
theorem law_stateNew (A B : Option Addr) (n c m d : Nat) (ps : List Int) (ns : List Q) (v : V) (dep : Int) (w : World) (hn : n ≤ maxLen) (hm : m ≤ maxLen) (hr : RdI w A n ps) (hq : RdE w B m ns) :
  Calls Tryz.prog 8 #[.agg #[.slice A n c, .slice B m d], .agg #[.int .i64 v.A, .int .i64 v.B, .int .i64 v.C], .int .i64 dep] w fun e w' => e = .returned (.bool true) ∧ Below w.heap.size w w' := by
 have HM := Lib.hid (show n ≤ maxLen ∧ m ≤ maxLen from ⟨hn, hm⟩)
 have HR := Lib.hid hr
 have HQ := Lib.hid hq
 have HZT := Lib.hid (szT_cases n m)
 obtain ⟨ES, hES⟩ : ∃ y, y = outSt (newSt ps ns v dep) := ⟨_, rfl⟩
 obtain ⟨EB, hEB⟩ : ∃ y, y = stateB (newSt ps ns v dep) := ⟨_, rfl⟩
 have HZ : Hid (ES.queue = [] ∧ ES.runs = [] ∧ ES.ends = []) := Lib.hid (by rw [hES]; exact outSt_nil ps ns v dep)
 have HSC : Hid (n ≤ 1048576 → m ≤ 1048576 → ∀ (A' B' : Option Addr) (c' d' lo : Nat) (W : World), W.ownsRow lo 3 1 (.slice A' n c') n (ints ps) → W.ownsRow lo 199 4 (.slice B' m d') m (flat ns) → Calls Tryz.prog 38 #[.agg #[.slice A' n c', .slice B' m d'], .agg #[.int .i64 v.A, .int .i64 v.B, .int .i64 v.C], .int .i64 dep] W fun e W' => ∃ a', e = .returned (.tuple #[SA.v a' ES, .bool EB]) ∧ StOwn W' W.heap.size a' ES [] ∧ Below W.heap.size W W') := Lib.hid (fun g1 g2 A' B' c' d' lo W h1 h2 => by rw [hES, hEB]; exact sStateNew_any A' B' n c' m d' lo ps ns v dep W g1 g2 h1 h2)
 have HIC : Hid (n ≤ 1048576 → m ≤ 1048576 → ∀ (A' B' : Option Addr) (c' d' lo : Nat) (W : World), W.ownsRow lo 3 1 (.slice A' n c') n (ints ps) → W.ownsRow lo 199 4 (.slice B' m d') m (flat ns) → Calls Tryz.prog 41 #[.agg #[.slice A' n c', .slice B' m d'], .agg #[.int .i64 v.A, .int .i64 v.B, .int .i64 v.C], .int .i64 dep] W fun e W' => ∃ a', e = .returned (.tuple #[SA.v a' ES, .bool EB]) ∧ StOwn W' W.heap.size a' ES [] ∧ Below W.heap.size W W') := Lib.hid (fun g1 g2 A' B' c' d' lo W h1 h2 => by rw [hES, hEB]; exact StateNew_any A' B' n c' m d' ps ns v dep W g1 g2 (zAv h1) (zAv h2) (own_blk h1) (own_blk h2) (own_addrS h1) (own_addrS h2))
 clear hr hq hn hm hES hEB
 have BE : Below w.heap.size w ((w.alloc (.cells #[.slice A n c, .slice B m d] 46)).alloc (.cells #[.int .i64 v.A, .int .i64 v.B, .int .i64 v.C] 66)) := zAc (zAa _ _) (zAa _ _)
 have XA : Hid (BX w ((w.alloc (.cells #[.slice A n c, .slice B m d] 46)).alloc (.cells #[.int .i64 v.A, .int .i64 v.B, .int .i64 v.C] 66)) (w.heap.size) 46 [.slice A n c, .slice B m d]) := Lib.hid ⟨zAu (zAk _ rfl) _, BE, Nat.le_refl _⟩
 have XV : Hid (BX w ((w.alloc (.cells #[.slice A n c, .slice B m d] 46)).alloc (.cells #[.int .i64 v.A, .int .i64 v.B, .int .i64 v.C] 66)) (w.heap.size + 1) 66 [.int .i64 v.A, .int .i64 v.B, .int .i64 v.C]) := Lib.hid ⟨zAk _ (by simp), BE, by omega⟩
 clear BE
 go_enter Tryz.func8, Tryz.ntmps8
 go_upto_region 2 with fail
 generalize (w.alloc (.cells #[.slice A n c, .slice B m d] 46)).alloc (.cells #[.int .i64 v.A, .int .i64 v.B, .int .i64 v.C] 66) = w1 at *
 have hl1 := zAf XA.out.bx
 have hl0 := zAf XV.out.bx
 have k0 := zAb XA.out.bx 0 rfl
 have k1 := zAb XA.out.bx 1 rfl
 have kf := zAh XA.out.bx
 have kl := zAf XA.out.bx
 simp only [zgc, zga, zgb] at k0 k1
 go_wp2_with fail
 refine (szTopo_any A B n c m d _ HM.out.1 HM.out.2).mono ?_
 rintro e w2 ⟨rfl, hb2⟩
 clear k0 k1 kf kl
 have hs2 := hb2.size
 replace XA := Lib.hid (XA.out.step hb2)
 replace XV := Lib.hid (XV.out.step hb2)
 clear hb2
 rcases HZT.out with hz | ⟨hz, hn2, hm2⟩
 ·rw [hz]
  go_wp2
  go_ret
  exact ⟨rfl, XA.out.bel⟩
 have HNM : Hid (n ≤ 1048576 ∧ m ≤ 1048576) := Lib.hid ⟨hn2, hm2⟩
 obtain ⟨z, hzz⟩ : ∃ y, y = szT n m := ⟨_, rfl⟩
 rw [← hzz] at hz ⊢
 have hz' : ¬ z < 0 := by omega
 clear hzz hn2 hm2
 have k0 := zAb XA.out.bx 0 rfl
 have k1 := zAb XA.out.bx 1 rfl
 have kf := zAh XA.out.bx
 have kl := zAf XA.out.bx
 simp only [zgc, zga, zgb] at k0 k1
 have y0 := zAb XV.out.bx 0 rfl
 have y1 := zAb XV.out.bx 1 rfl
 have y2 := zAb XV.out.bx 2 rfl
 have yf := zAh XV.out.bx
 have yl := zAf XV.out.bx
 simp only [zgc, zga, zgb] at y0 y1 y2
 go_wp2_with fail
 go_cut [8, 9] (fun p9 q9 wr => ∃ (bw : Nat) (aR : SA), p9 = .pointer (some ⟨bw, 0, none⟩) ∧ q9 = .bool EB ∧ wr.heap[bw]? = some (.cells #[.slice aR.A aR.n aR.c, .slice aR.B aR.m aR.d, .slice aR.U aR.nu aR.cu, .int .i64 ES.lic.A, .int .i64 ES.lic.B, .int .i64 ES.lic.C, .int .i64 ES.dep, .int .i64 ES.now, .slice aR.K aR.nk aR.ck, .slice aR.R aR.nr aR.cr, .slice aR.E aR.ne aR.ce] 77 (0, 0)) ∧ StOwn wr w2.heap.size aR ES [] ∧ w2.heap.size ≤ bw ∧ Below w2.heap.size w2 wr)
 case first =>
  go_region_held3 (fun w' => w'.cell? ⟨w.heap.size, 0, none⟩ = some (.slice A n c) ∧ w'.cell? ⟨w.heap.size, 1, none⟩ = some (.slice B m d) ∧ w'.cell? ⟨w.heap.size + 1, 0, none⟩ = some (.int .i64 v.A) ∧ w'.cell? ⟨w.heap.size + 1, 1, none⟩ = some (.int .i64 v.B) ∧ w'.cell? ⟨w.heap.size + 1, 2, none⟩ = some (.int .i64 v.C)) (simp [go_sem, *, World.cell?_alloc_some, World.cell?_setCell_far, Nat.lt_add_right, Nat.ne_of_gt]) (first | (go_at_call 39; refine (toTopo_any A B n c m d ps ns _ HNM.out.1 HNM.out.2 (HR.out.below (by repeat (first | exact XA.out.bel | (refine zAc ?_ (zAa _ _)) | (refine zAc ?_ (by assumption)) | refine Below.drew ?_))) (HQ.out.below (by repeat (first | exact XA.out.bel | (refine zAc ?_ (zAa _ _)) | (refine zAc ?_ (by assumption)) | refine Below.drew ?_)))).mono ?_; rintro e w3 ⟨u3, x3, rfl, oA, oB, hb3⟩; obtain ⟨A3, c3, rfl, _⟩ := zAt oA; obtain ⟨B3, d3, rfl, _⟩ := zAt oB; have OA3 := Lib.hid oA; have OB3 := Lib.hid oB; clear oA oB; have hs3 := hb3.size; (try simp at hs3); have hy3_0 : w.heap.size < w3.heap.size := (by omega); have hk3_0 := fun o => hb3.cell (p := ⟨w.heap.size, o, none⟩) zOm; have hg3_0 := fun o => hb3.frozen (p := ⟨w.heap.size, o, none⟩) zOm; have hy3_1 : w.heap.size + 1 < w3.heap.size := (by omega); have hk3_1 := fun o => hb3.cell (p := ⟨w.heap.size + 1, o, none⟩) zOm; have hg3_1 := fun o => hb3.frozen (p := ⟨w.heap.size + 1, o, none⟩) zOm; (try (have hxy3_0 : w2.heap.size < w3.heap.size := (by omega); have hxk3_0 := fun o => hb3.cell (p := ⟨w2.heap.size, o, none⟩) zOm; have hxg3_0 := fun o => hb3.frozen (p := ⟨w2.heap.size, o, none⟩) zOm))) | (go_at_call 40; refine (toVec_raw _ _ _ _).mono ?_; rintro e w4 ⟨rfl, hb4⟩; have hs4 := hb4.size; (try simp at hs4); have hy4_0 : w.heap.size < w4.heap.size := (by omega); have hk4_0 := fun o => hb4.cell (p := ⟨w.heap.size, o, none⟩) zOm; have hg4_0 := fun o => hb4.frozen (p := ⟨w.heap.size, o, none⟩) zOm; have hy4_1 : w.heap.size + 1 < w4.heap.size := (by omega); have hk4_1 := fun o => hb4.cell (p := ⟨w.heap.size + 1, o, none⟩) zOm; have hg4_1 := fun o => hb4.frozen (p := ⟨w.heap.size + 1, o, none⟩) zOm; (try (have hxy4_0 : w2.heap.size < w4.heap.size := (by omega); have hxk4_0 := fun o => hb4.cell (p := ⟨w2.heap.size, o, none⟩) zOm; have hxg4_0 := fun o => hb4.frozen (p := ⟨w2.heap.size, o, none⟩) zOm)); (try (have hxy4_1 : w3.heap.size < w4.heap.size := (by omega); have hxk4_1 := fun o => hb4.cell (p := ⟨w3.heap.size, o, none⟩) zOm; have hxg4_1 := fun o => hb4.frozen (p := ⟨w3.heap.size, o, none⟩) zOm))) | (go_at_call 38; refine (HSC.out HNM.out.1 HNM.out.2 A3 B3 c3 d3 _ _ (zAe OA3.out (by repeat (first | exact Below.refl _ _ | (refine zAc ?_ (zAa _ _)) | (refine zAc ?_ (by assumption)) | refine Below.drew ?_))) (zAe OB3.out (by repeat (first | exact Below.refl _ _ | (refine zAc ?_ (zAa _ _)) | (refine zAc ?_ (by assumption)) | refine Below.drew ?_)))).mono ?_; rintro e w5 ⟨⟨A5, B5, U5, K5, R5, E5, n5, m5, nu5, nk5, nr5, ne5, c5, d5, cu5, ck5, cr5, ce5⟩, rfl, own5, hb5⟩; have OS5 := Lib.hid own5; clear own5; dsimp only [SA.v]; have hs5 := hb5.size; (try simp at hs5); have hy5_0 : w.heap.size < w5.heap.size := (by omega); have hk5_0 := fun o => hb5.cell (p := ⟨w.heap.size, o, none⟩) zOm; have hg5_0 := fun o => hb5.frozen (p := ⟨w.heap.size, o, none⟩) zOm; have hy5_1 : w.heap.size + 1 < w5.heap.size := (by omega); have hk5_1 := fun o => hb5.cell (p := ⟨w.heap.size + 1, o, none⟩) zOm; have hg5_1 := fun o => hb5.frozen (p := ⟨w.heap.size + 1, o, none⟩) zOm; (try (have hxy5_0 : w2.heap.size < w5.heap.size := (by omega); have hxk5_0 := fun o => hb5.cell (p := ⟨w2.heap.size, o, none⟩) zOm; have hxg5_0 := fun o => hb5.frozen (p := ⟨w2.heap.size, o, none⟩) zOm)); (try (have hxy5_1 : w3.heap.size < w5.heap.size := (by omega); have hxk5_1 := fun o => hb5.cell (p := ⟨w3.heap.size, o, none⟩) zOm; have hxg5_1 := fun o => hb5.frozen (p := ⟨w3.heap.size, o, none⟩) zOm)); (try (have hxy5_2 : w4.heap.size < w5.heap.size := (by omega); have hxk5_2 := fun o => hb5.cell (p := ⟨w4.heap.size, o, none⟩) zOm; have hxg5_2 := fun o => hb5.frozen (p := ⟨w4.heap.size, o, none⟩) zOm))))
  all_goals (go_wp2; go_meet)
  case rel =>
   with_reducible refine ⟨_, ⟨A5, B5, U5, K5, R5, E5, n5, m5, nu5, nk5, nr5, ne5, c5, d5, cu5, ck5, cr5, ce5⟩, rfl, rfl, heap_at9 _ _, (OS5.out.mono ?_).bel (zAa _ _), ?_, zAc (zAc (zAc (zAc (Below.refl _ _).drew hb3) hb4) hb5) (zAa _ _)⟩
   all_goals (first | omega | (simp <;> omega))
  case rel =>
   with_reducible refine ⟨_, ⟨A5, B5, U5, K5, R5, E5, n5, m5, nu5, nk5, nr5, ne5, c5, d5, cu5, ck5, cr5, ce5⟩, rfl, rfl, hset11 (zAg (heap_at9 _ _) hb5), (OS5.out.mono ?_).set11 (zAg (heap_at9 _ _) hb5) _ _ _ _ _ _ _ _ _ _ _, ?_, bel_set11 (zAc (zAc (zAc (zAc (Below.refl _ _).drew hb3) hb4) (zAa _ _)) hb5) ?_ _ _ _ _ _ _ _ _ _ _ _⟩
   all_goals (first | omega | (simp <;> omega))
  case rel =>
   with_reducible refine ⟨_, ⟨A5, B5, U5, K5, R5, E5, n5, m5, nu5, nk5, nr5, ne5, c5, d5, cu5, ck5, cr5, ce5⟩, rfl, rfl, hset11 (zAg (zAg (heap_at9 _ _) hb4) hb5), (OS5.out.mono ?_).set11 (zAg (zAg (heap_at9 _ _) hb4) hb5) _ _ _ _ _ _ _ _ _ _ _, ?_, bel_set11 (zAc (zAc (zAc (zAc (Below.refl _ _).drew hb3) (zAa _ _)) hb4) hb5) ?_ _ _ _ _ _ _ _ _ _ _ _⟩
   all_goals (first | omega | (simp <;> omega))
  case rel =>
   with_reducible refine ⟨_, ⟨A5, B5, U5, K5, R5, E5, n5, m5, nu5, nk5, nr5, ne5, c5, d5, cu5, ck5, cr5, ce5⟩, rfl, rfl, hset11 (zAg (zAg (zAg (heap_at9d _ _) hb3) hb4) hb5), (OS5.out.mono ?_).set11 (zAg (zAg (zAg (heap_at9d _ _) hb3) hb4) hb5) _ _ _ _ _ _ _ _ _ _ _, ?_, bel_set11 (zAc (zAc (zAc (zAc (Below.refl _ _) (zAa _ _)).drew hb3) hb4) hb5) ?_ _ _ _ _ _ _ _ _ _ _ _⟩
   all_goals (first | omega | (simp <;> omega))
 case rest =>
  obtain ⟨w6, rfl⟩ : ∃ x, x = wc := ⟨wc, rfl⟩
  obtain ⟨b6, ⟨A6, B6, U6, K6, R6, E6, n6, m6, nu6, nk6, nr6, ne6, c6, d6, cu6, ck6, cr6, ce6⟩, rfl, rfl, bx6, own6, hl6, hb6⟩ := hcut
  obtain ⟨z1, z2, z3⟩ := own6.zero HZ.out
  dsimp only at z1 z2 z3
  subst z1 z2 z3
  dsimp only at bx6
  clear k0 k1 kf kl
  clear y0 y1 y2 yf yl
  have hs6 := hb6.size
  have XW : Hid (BX w w6 b6 77 [.slice A6 n6 c6, .slice B6 m6 d6, .slice U6 nu6 cu6, .int .i64 ES.lic.A, .int .i64 ES.lic.B, .int .i64 ES.lic.C, .int .i64 ES.dep, .int .i64 ES.now, .slice K6 0 ck6, .slice R6 0 cr6, .slice E6 0 ce6]) := Lib.hid ⟨bx6, zAc XA.out.bel hb6, Nat.le_trans XA.out.bel.size hl6⟩
  replace XA := Lib.hid (XA.out.step hb6)
  replace XV := Lib.hid (XV.out.step hb6)
  have O4 := Lib.hid own6
  have RG4 : Hid (∀ k, atS ⟨A6, B6, U6, K6, R6, E6, n6, m6, nu6, 0, 0, 0, c6, d6, cu6, ck6, cr6, ce6⟩ [] k → w2.heap.size ≤ k ∧ k < w6.heap.size) := Lib.hid own6.rng
  have hbl6 := zAf bx6
  clear own6 bx6 hb6
  have NB6 : Hid (¬ atS ⟨A6, B6, U6, K6, R6, E6, n6, m6, nu6, 0, 0, 0, c6, d6, cu6, ck6, cr6, ce6⟩ [] b6) := Lib.hid (O4.out.nbox XW.out.bx)
  have k0 := zAb XA.out.bx 0 rfl
  have k1 := zAb XA.out.bx 1 rfl
  have kf := zAh XA.out.bx
  have kl := zAf XA.out.bx
  simp only [zgc, zga, zgb] at k0 k1
  go_wp2_with fail
  refine (toTopo_any A B n c m d ps ns _ HNM.out.1 HNM.out.2 (HR.out.below (by repeat (first | exact XA.out.bel | (refine zAc ?_ (zAa _ _)) | (refine zAc ?_ (by assumption)) | refine Below.drew ?_))) (HQ.out.below (by repeat (first | exact XA.out.bel | (refine zAc ?_ (zAa _ _)) | (refine zAc ?_ (by assumption)) | refine Below.drew ?_)))).mono ?_
  rintro e w7 ⟨u7, x7, rfl, oA, oB, hb7⟩
  obtain ⟨A7, c7, rfl, _⟩ := zAt oA
  obtain ⟨B7, d7, rfl, _⟩ := zAt oB
  have OA7 := Lib.hid oA
  have OB7 := Lib.hid oB
  clear oA oB
  clear k0 k1 kf kl
  have hs7 := hb7.size
  replace XA := Lib.hid (XA.out.step hb7)
  replace XV := Lib.hid (XV.out.step hb7)
  replace XW := Lib.hid (XW.out.step hb7)
  replace O4 := Lib.hid (O4.out.bel hb7)
  clear hb7
  have RGX : Hid (∀ k, atT A7 B7 k → w6.heap.size ≤ k ∧ k < w7.heap.size) := Lib.hid (fun k hk => hk.elim (own_rng OA7.out k) (own_rng OB7.out k))
  have OX : Hid (TpOwn w7 w6.heap.size A7 B7 n c7 m d7 ps ns) := Lib.hid ⟨OA7.out, OB7.out⟩
  clear OA7 OB7
  have hb8 := zAa w7 (.cells #[.slice A7 n c7, .slice B7 m d7] 26)
  have hs8 := hb8.size
  have XX : Hid (BX w (w7.alloc (.cells #[.slice A7 n c7, .slice B7 m d7] 26)) w7.heap.size 26 [.slice A7 n c7, .slice B7 m d7]) := Lib.hid (BX.start XA.out.bel rfl)
  replace XA := Lib.hid (XA.out.step hb8)
  replace XV := Lib.hid (XV.out.step hb8)
  replace XW := Lib.hid (XW.out.step hb8)
  replace O4 := Lib.hid (O4.out.bel hb8)
  replace OX := Lib.hid (OX.out.bel hb8)
  have hl8 := zAf XX.out.bx
  clear hb8
  go_upto_region 7 with fail
  generalize w7.alloc (.cells #[.slice A7 n c7, .slice B7 m d7] 26) = w8 at *
  obtain ⟨b8, hbn8⟩ : ∃ y, y = w7.heap.size := ⟨_, rfl⟩
  rw [← hbn8] at XX hl8 ⊢
  have HBN8 := Lib.hid hbn8
  clear hbn8
  have x0 := zAb XX.out.bx 0 rfl
  have x1 := zAb XX.out.bx 1 rfl
  have xf := zAh XX.out.bx
  have xl := zAf XX.out.bx
  simp only [zgc, zga, zgb] at x0 x1
  have y0 := zAb XV.out.bx 0 rfl
  have y1 := zAb XV.out.bx 1 rfl
  have y2 := zAb XV.out.bx 2 rfl
  have yf := zAh XV.out.bx
  have yl := zAf XV.out.bx
  simp only [zgc, zga, zgb] at y0 y1 y2
  go_wp2_with fail
  go_cut [11, 12] (fun p9 q9 wr => ∃ (bw : Nat) (aR : SA), p9 = .pointer (some ⟨bw, 0, none⟩) ∧ q9 = .bool EB ∧ wr.heap[bw]? = some (.cells #[.slice aR.A aR.n aR.c, .slice aR.B aR.m aR.d, .slice aR.U aR.nu aR.cu, .int .i64 ES.lic.A, .int .i64 ES.lic.B, .int .i64 ES.lic.C, .int .i64 ES.dep, .int .i64 ES.now, .slice aR.K aR.nk aR.ck, .slice aR.R aR.nr aR.cr, .slice aR.E aR.ne aR.ce] 77 (0, 0)) ∧ StOwn wr w8.heap.size aR ES [] ∧ w8.heap.size ≤ bw ∧ Below w8.heap.size w8 wr)
  case first =>
   go_region_held3 (fun w' => w'.cell? ⟨b8, 0, none⟩ = some (.slice A7 n c7) ∧ w'.cell? ⟨b8, 1, none⟩ = some (.slice B7 m d7) ∧ w'.cell? ⟨w.heap.size + 1, 0, none⟩ = some (.int .i64 v.A) ∧ w'.cell? ⟨w.heap.size + 1, 1, none⟩ = some (.int .i64 v.B) ∧ w'.cell? ⟨w.heap.size + 1, 2, none⟩ = some (.int .i64 v.C)) (simp [go_sem, *, World.cell?_alloc_some, World.cell?_setCell_far, Nat.lt_add_right, Nat.ne_of_gt]) (first | (go_at_call 40; refine (toVec_raw _ _ _ _).mono ?_; rintro e w9 ⟨rfl, hb9⟩; have hs9 := hb9.size; (try simp at hs9); have hy9_0 : b8 < w9.heap.size := (by omega); have hk9_0 := fun o => hb9.cell (p := ⟨b8, o, none⟩) zOm; have hg9_0 := fun o => hb9.frozen (p := ⟨b8, o, none⟩) zOm; have hy9_1 : w.heap.size + 1 < w9.heap.size := (by omega); have hk9_1 := fun o => hb9.cell (p := ⟨w.heap.size + 1, o, none⟩) zOm; have hg9_1 := fun o => hb9.frozen (p := ⟨w.heap.size + 1, o, none⟩) zOm; (try (have hxy9_0 : w8.heap.size < w9.heap.size := (by omega); have hxk9_0 := fun o => hb9.cell (p := ⟨w8.heap.size, o, none⟩) zOm; have hxg9_0 := fun o => hb9.frozen (p := ⟨w8.heap.size, o, none⟩) zOm))) | (go_at_call 41; refine (HIC.out HNM.out.1 HNM.out.2 A7 B7 c7 d7 _ _ (zAe OX.out.par (by repeat (first | exact Below.refl _ _ | (refine zAc ?_ (zAa _ _)) | (refine zAc ?_ (by assumption)) | refine Below.drew ?_))) (zAe OX.out.nodes (by repeat (first | exact Below.refl _ _ | (refine zAc ?_ (zAa _ _)) | (refine zAc ?_ (by assumption)) | refine Below.drew ?_)))).mono ?_; rintro e w10 ⟨⟨A10, B10, U10, K10, R10, E10, n10, m10, nu10, nk10, nr10, ne10, c10, d10, cu10, ck10, cr10, ce10⟩, rfl, own10, hb10⟩; have OS10 := Lib.hid own10; clear own10; dsimp only [SA.v]; have hs10 := hb10.size; (try simp at hs10); have hy10_0 : b8 < w10.heap.size := (by omega); have hk10_0 := fun o => hb10.cell (p := ⟨b8, o, none⟩) zOm; have hg10_0 := fun o => hb10.frozen (p := ⟨b8, o, none⟩) zOm; have hy10_1 : w.heap.size + 1 < w10.heap.size := (by omega); have hk10_1 := fun o => hb10.cell (p := ⟨w.heap.size + 1, o, none⟩) zOm; have hg10_1 := fun o => hb10.frozen (p := ⟨w.heap.size + 1, o, none⟩) zOm; (try (have hxy10_0 : w8.heap.size < w10.heap.size := (by omega); have hxk10_0 := fun o => hb10.cell (p := ⟨w8.heap.size, o, none⟩) zOm; have hxg10_0 := fun o => hb10.frozen (p := ⟨w8.heap.size, o, none⟩) zOm)); (try (have hxy10_1 : w9.heap.size < w10.heap.size := (by omega); have hxk10_1 := fun o => hb10.cell (p := ⟨w9.heap.size, o, none⟩) zOm; have hxg10_1 := fun o => hb10.frozen (p := ⟨w9.heap.size, o, none⟩) zOm))))
   all_goals (go_wp2; go_meet)
   case rel =>
    with_reducible refine ⟨_, ⟨A10, B10, U10, K10, R10, E10, n10, m10, nu10, nk10, nr10, ne10, c10, d10, cu10, ck10, cr10, ce10⟩, rfl, rfl, heap_at9 _ _, (OS10.out.mono ?_).bel (zAa _ _), ?_, zAc (zAc (zAc (Below.refl _ _).drew hb9) hb10) (zAa _ _)⟩
    all_goals (first | omega | (simp <;> omega))
   case rel =>
    with_reducible refine ⟨_, ⟨A10, B10, U10, K10, R10, E10, n10, m10, nu10, nk10, nr10, ne10, c10, d10, cu10, ck10, cr10, ce10⟩, rfl, rfl, hset11 (zAg (heap_at9 _ _) hb10), (OS10.out.mono ?_).set11 (zAg (heap_at9 _ _) hb10) _ _ _ _ _ _ _ _ _ _ _, ?_, bel_set11 (zAc (zAc (zAc (Below.refl _ _).drew hb9) (zAa _ _)) hb10) ?_ _ _ _ _ _ _ _ _ _ _ _⟩
    all_goals (first | omega | (simp <;> omega))
   case rel =>
    with_reducible refine ⟨_, ⟨A10, B10, U10, K10, R10, E10, n10, m10, nu10, nk10, nr10, ne10, c10, d10, cu10, ck10, cr10, ce10⟩, rfl, rfl, hset11 (zAg (zAg (heap_at9d _ _) hb9) hb10), (OS10.out.mono ?_).set11 (zAg (zAg (heap_at9d _ _) hb9) hb10) _ _ _ _ _ _ _ _ _ _ _, ?_, bel_set11 (zAc (zAc (zAc (Below.refl _ _) (zAa _ _)).drew hb9) hb10) ?_ _ _ _ _ _ _ _ _ _ _ _⟩
    all_goals (first | omega | (simp <;> omega))
  case rest =>
   obtain ⟨w11, rfl⟩ : ∃ x, x = wc := ⟨wc, rfl⟩
   obtain ⟨b11, ⟨A11, B11, U11, K11, R11, E11, n11, m11, nu11, nk11, nr11, ne11, c11, d11, cu11, ck11, cr11, ce11⟩, rfl, rfl, bx11, own11, hl11, hb11⟩ := hcut
   obtain ⟨z1, z2, z3⟩ := own11.zero HZ.out
   dsimp only at z1 z2 z3
   subst z1 z2 z3
   dsimp only at bx11
   clear x0 x1 xf xl
   clear y0 y1 y2 yf yl
   have hs11 := hb11.size
   have XG : Hid (BX w w11 b11 77 [.slice A11 n11 c11, .slice B11 m11 d11, .slice U11 nu11 cu11, .int .i64 ES.lic.A, .int .i64 ES.lic.B, .int .i64 ES.lic.C, .int .i64 ES.dep, .int .i64 ES.now, .slice K11 0 ck11, .slice R11 0 cr11, .slice E11 0 ce11]) := Lib.hid ⟨bx11, zAc XA.out.bel hb11, Nat.le_trans XA.out.bel.size hl11⟩
   replace XA := Lib.hid (XA.out.step hb11)
   replace XV := Lib.hid (XV.out.step hb11)
   replace XW := Lib.hid (XW.out.step hb11)
   replace XX := Lib.hid (XX.out.step hb11)
   replace O4 := Lib.hid (O4.out.bel hb11)
   replace OX := Lib.hid (OX.out.bel hb11)
   have O8 := Lib.hid own11
   have RG8 : Hid (∀ k, atS ⟨A11, B11, U11, K11, R11, E11, n11, m11, nu11, 0, 0, 0, c11, d11, cu11, ck11, cr11, ce11⟩ [] k → w8.heap.size ≤ k ∧ k < w11.heap.size) := Lib.hid own11.rng
   have hbl11 := zAf bx11
   clear own11 bx11 hb11
   have NB11 : Hid (¬ atS ⟨A11, B11, U11, K11, R11, E11, n11, m11, nu11, 0, 0, 0, c11, d11, cu11, ck11, cr11, ce11⟩ [] b11) := Lib.hid (O8.out.nbox XG.out.bx)
   have g0 := zAb XW.out.bx 0 rfl
   have g1 := zAb XW.out.bx 1 rfl
   have g2 := zAb XW.out.bx 2 rfl
   have g3 := zAb XW.out.bx 3 rfl
   have g4 := zAb XW.out.bx 4 rfl
   have g5 := zAb XW.out.bx 5 rfl
   have g6 := zAb XW.out.bx 6 rfl
   have g7 := zAb XW.out.bx 7 rfl
   have g8 := zAb XW.out.bx 8 rfl
   have g9 := zAb XW.out.bx 9 rfl
   have g10 := zAb XW.out.bx 10 rfl
   have gf := zAh XW.out.bx
   have gl := zAf XW.out.bx
   simp only [zgc, zga, zgb] at g0 g1 g2 g3 g4 g5 g6 g7 g8 g9 g10
   have q0 := zAb XG.out.bx 0 rfl
   have q1 := zAb XG.out.bx 1 rfl
   have q2 := zAb XG.out.bx 2 rfl
   have q3 := zAb XG.out.bx 3 rfl
   have q4 := zAb XG.out.bx 4 rfl
   have q5 := zAb XG.out.bx 5 rfl
   have q6 := zAb XG.out.bx 6 rfl
   have q7 := zAb XG.out.bx 7 rfl
   have q8 := zAb XG.out.bx 8 rfl
   have q9 := zAb XG.out.bx 9 rfl
   have q10 := zAb XG.out.bx 10 rfl
   have qf := zAh XG.out.bx
   have ql := zAf XG.out.bx
   simp only [zgc, zga, zgb] at q0 q1 q2 q3 q4 q5 q6 q7 q8 q9 q10
   go_wp2_with fail
   refine (eqState_any ⟨A11, B11, U11, K11, R11, E11, n11, m11, nu11, 0, 0, 0, c11, d11, cu11, ck11, cr11, ce11⟩ ⟨A6, B6, U6, K6, R6, E6, n6, m6, nu6, 0, 0, 0, c6, d6, cu6, ck6, cr6, ce6⟩ ES [] [] _ O8.out.rd O4.out.rd (O8.out.same O4.out)).mono ?_
   rintro e w12 ⟨rfl, hb12⟩
   clear g0 g1 g2 g3 g4 g5 g6 g7 g8 g9 g10 gf gl
   clear q0 q1 q2 q3 q4 q5 q6 q7 q8 q9 q10 qf ql
   have hs12 := hb12.size
   replace XA := Lib.hid (XA.out.step hb12)
   replace XV := Lib.hid (XV.out.step hb12)
   replace XW := Lib.hid (XW.out.step hb12)
   replace XX := Lib.hid (XX.out.step hb12)
   replace XG := Lib.hid (XG.out.step hb12)
   replace O4 := Lib.hid (O4.out.bel hb12)
   replace OX := Lib.hid (OX.out.bel hb12)
   replace O8 := Lib.hid (O8.out.bel hb12)
   clear hb12
   have x0 := zAb XX.out.bx 0 rfl
   have x1 := zAb XX.out.bx 1 rfl
   have xf := zAh XX.out.bx
   have xl := zAf XX.out.bx
   simp only [zgc, zga, zgb] at x0 x1
   have k0 := zAb XA.out.bx 0 rfl
   have k1 := zAb XA.out.bx 1 rfl
   have kf := zAh XA.out.bx
   have kl := zAf XA.out.bx
   simp only [zgc, zga, zgb] at k0 k1
   go_wp2_with fail
   go_region_held3 (fun w' => w'.cell? ⟨b8, 0, none⟩ = some (.slice A7 n c7) ∧ w'.cell? ⟨b8, 1, none⟩ = some (.slice B7 m d7) ∧ w'.cell? ⟨w.heap.size, 0, none⟩ = some (.slice A n c) ∧ w'.cell? ⟨w.heap.size, 1, none⟩ = some (.slice B m d)) (simp [go_sem, *, World.cell?_alloc_some, World.cell?_setCell_far, Nat.lt_add_right, Nat.ne_of_gt]) (first | (go_at_call 39; refine (toTopo_any A B n c m d ps ns _ HNM.out.1 HNM.out.2 (HR.out.below (zAc XA.out.bel ((Below.refl w12.heap.size w12).drew))) (HQ.out.below (zAc XA.out.bel ((Below.refl w12.heap.size w12).drew)))).mono ?_; rintro e w13 ⟨u13, x13, rfl, oA, oB, hb13⟩; obtain ⟨A13, c13, rfl, _⟩ := zAt oA; obtain ⟨B13, d13, rfl, _⟩ := zAt oB; have OA13 := Lib.hid oA; have OB13 := Lib.hid oB; clear oA oB; have D13 := Lib.hid (show Below w12.heap.size w12 w13 from zAc ((Below.refl w12.heap.size w12).drew) hb13); have hs13 := hb13.size; (try simp at hs13); have hy13_0 : b8 < w13.heap.size := (by omega); have hk13_0 := fun o => hb13.cell (p := ⟨b8, o, none⟩) zOm; have hg13_0 := fun o => hb13.frozen (p := ⟨b8, o, none⟩) zOm; have hy13_1 : w.heap.size < w13.heap.size := (by omega); have hk13_1 := fun o => hb13.cell (p := ⟨w.heap.size, o, none⟩) zOm; have hg13_1 := fun o => hb13.frozen (p := ⟨w.heap.size, o, none⟩) zOm; clear hb13) | (go_at_call 42; refine (eqTopo_any A7 A13 B7 B13 n c7 c13 m d7 d13 ps ns _ (Nat.le_succ_of_le HNM.out.1) (Nat.le_succ_of_le HNM.out.2) (zAv (zAe OX.out.par D13.out)) (zAv OA13.out) (zAv (zAe OX.out.nodes D13.out)) (zAv OB13.out) (own_blk (zAe OX.out.par D13.out)) (own_blk OA13.out) (own_blk (zAe OX.out.nodes D13.out)) (own_blk OB13.out)).mono ?_; rintro e w14 ⟨rfl, hb14⟩; have D14 := Lib.hid (show Below w12.heap.size w12 w14 from zAc D13.out hb14); have hs14 := hb14.size; (try simp at hs14); have hy14_0 : b8 < w14.heap.size := (by omega); have hk14_0 := fun o => hb14.cell (p := ⟨b8, o, none⟩) zOm; have hg14_0 := fun o => hb14.frozen (p := ⟨b8, o, none⟩) zOm; have hy14_1 : w.heap.size < w14.heap.size := (by omega); have hk14_1 := fun o => hb14.cell (p := ⟨w.heap.size, o, none⟩) zOm; have hg14_1 := fun o => hb14.frozen (p := ⟨w.heap.size, o, none⟩) zOm; clear hb14))
   clear x0 x1 xf xl
   clear k0 k1 kf kl
   clear hk13_0 hg13_0 hy13_0 hk13_1 hg13_1 hy13_1 hk14_0 hg14_0 hy14_0 hk14_1 hg14_1 hy14_1 OA13 OB13 D13
   have hsD := D14.out.size
   replace XA := Lib.hid (XA.out.step D14.out)
   replace XV := Lib.hid (XV.out.step D14.out)
   replace XW := Lib.hid (XW.out.step D14.out)
   replace XX := Lib.hid (XX.out.step D14.out)
   replace XG := Lib.hid (XG.out.step D14.out)
   replace O4 := Lib.hid (O4.out.bel D14.out)
   replace OX := Lib.hid (OX.out.bel D14.out)
   replace O8 := Lib.hid (O8.out.bel D14.out)
   clear D14
   have x0 := zAb XX.out.bx 0 rfl
   have x1 := zAb XX.out.bx 1 rfl
   have xf := zAh XX.out.bx
   have xl := zAf XX.out.bx
   simp only [zgc, zga, zgb] at x0 x1
   go_wp2_with fail
   refine (markTopoG A7 B7 n c7 m d7 _ _ _ (Nat.le_succ_of_le HNM.out.1) (Nat.le_succ_of_le HNM.out.2) (own_wr2 OX.out.par) (own_wr2 OX.out.nodes) (own_disj OX.out.par OX.out.nodes (by decide)) (fun k hk => (own_rng OX.out.par k hk).2)).mono ?_
   rintro e w15 ⟨rfl, -, -, fr15⟩
   clear x0 x1 xf xl
   have hs15 := fr15.size
   have FR15 := Lib.hid fr15
   clear fr15
   replace XA := Lib.hid (XA.out.fr FR15.out (fun h => by have q9 := RGX.out _ h; have mHBN8 := HBN8.out; omega) (fun k h => by have q9 := RGX.out _ h; omega))
   replace XV := Lib.hid (XV.out.fr FR15.out (fun h => by have q9 := RGX.out _ h; have mHBN8 := HBN8.out; omega) (fun k h => by have q9 := RGX.out _ h; omega))
   replace XW := Lib.hid (XW.out.fr FR15.out (fun h => by have q9 := RGX.out _ h; have mHBN8 := HBN8.out; omega) (fun k h => by have q9 := RGX.out _ h; omega))
   replace XX := Lib.hid (XX.out.fr FR15.out (fun h => by have q9 := RGX.out _ h; have mHBN8 := HBN8.out; omega) (fun k h => by have q9 := RGX.out _ h; omega))
   replace XG := Lib.hid (XG.out.fr FR15.out (fun h => by have q9 := RGX.out _ h; have mHBN8 := HBN8.out; omega) (fun k h => by have q9 := RGX.out _ h; omega))
   replace O4 := Lib.hid (O4.out.fr FR15.out (fun k h1 h2 => by have q1 := RG4.out k h1; have q2 := RGX.out k h2; omega))
   replace O8 := Lib.hid (O8.out.fr FR15.out (fun k h1 h2 => by have q1 := RG8.out k h1; have q2 := RGX.out k h2; omega))
   clear OX
   clear FR15
   obtain ⟨KT, hKT⟩ : ∃ y : Int, y = 1 + 1 * (n : Int) + 4 * (m : Int) := ⟨_, rfl⟩
   rw [← hKT]
   have hKTn : ¬ KT < 0 := by omega
   clear hKT
   have g0 := zAb XW.out.bx 0 rfl
   have g1 := zAb XW.out.bx 1 rfl
   have g2 := zAb XW.out.bx 2 rfl
   have g3 := zAb XW.out.bx 3 rfl
   have g4 := zAb XW.out.bx 4 rfl
   have g5 := zAb XW.out.bx 5 rfl
   have g6 := zAb XW.out.bx 6 rfl
   have g7 := zAb XW.out.bx 7 rfl
   have g8 := zAb XW.out.bx 8 rfl
   have g9 := zAb XW.out.bx 9 rfl
   have g10 := zAb XW.out.bx 10 rfl
   have gf := zAh XW.out.bx
   have gl := zAf XW.out.bx
   simp only [zgc, zga, zgb] at g0 g1 g2 g3 g4 g5 g6 g7 g8 g9 g10
   have q0 := zAb XG.out.bx 0 rfl
   have q1 := zAb XG.out.bx 1 rfl
   have q2 := zAb XG.out.bx 2 rfl
   have q3 := zAb XG.out.bx 3 rfl
   have q4 := zAb XG.out.bx 4 rfl
   have q5 := zAb XG.out.bx 5 rfl
   have q6 := zAb XG.out.bx 6 rfl
   have q7 := zAb XG.out.bx 7 rfl
   have q8 := zAb XG.out.bx 8 rfl
   have q9 := zAb XG.out.bx 9 rfl
   have q10 := zAb XG.out.bx 10 rfl
   have qf := zAh XG.out.bx
   have ql := zAf XG.out.bx
   simp only [zgc, zga, zgb] at q0 q1 q2 q3 q4 q5 q6 q7 q8 q9 q10
   go_wp2_with fail
   refine (eqState_any ⟨A11, B11, U11, K11, R11, E11, n11, m11, nu11, 0, 0, 0, c11, d11, cu11, ck11, cr11, ce11⟩ ⟨A6, B6, U6, K6, R6, E6, n6, m6, nu6, 0, 0, 0, c6, d6, cu6, ck6, cr6, ce6⟩ ES [] [] _ O8.out.rd O4.out.rd (O8.out.same O4.out)).mono ?_
   rintro e w16 ⟨rfl, hb16⟩
   clear g0 g1 g2 g3 g4 g5 g6 g7 g8 g9 g10 gf gl
   clear q0 q1 q2 q3 q4 q5 q6 q7 q8 q9 q10 qf ql
   have hs16 := hb16.size
   replace XA := Lib.hid (XA.out.step hb16)
   replace XV := Lib.hid (XV.out.step hb16)
   replace XW := Lib.hid (XW.out.step hb16)
   replace XX := Lib.hid (XX.out.step hb16)
   replace XG := Lib.hid (XG.out.step hb16)
   replace O4 := Lib.hid (O4.out.bel hb16)
   replace O8 := Lib.hid (O8.out.bel hb16)
   clear hb16
   have q0 := zAb XG.out.bx 0 rfl
   have q1 := zAb XG.out.bx 1 rfl
   have q2 := zAb XG.out.bx 2 rfl
   have q3 := zAb XG.out.bx 3 rfl
   have q4 := zAb XG.out.bx 4 rfl
   have q5 := zAb XG.out.bx 5 rfl
   have q6 := zAb XG.out.bx 6 rfl
   have q7 := zAb XG.out.bx 7 rfl
   have q8 := zAb XG.out.bx 8 rfl
   have q9 := zAb XG.out.bx 9 rfl
   have q10 := zAb XG.out.bx 10 rfl
   have qf := zAh XG.out.bx
   have ql := zAf XG.out.bx
   simp only [zgc, zga, zgb] at q0 q1 q2 q3 q4 q5 q6 q7 q8 q9 q10
   go_wp2_with fail
   refine (markState_fr ⟨A11, B11, U11, K11, R11, E11, n11, m11, nu11, 0, 0, 0, c11, d11, cu11, ck11, cr11, ce11⟩ ES [] _ _ O8.out).mono ?_
   rintro e w17 ⟨⟨KS, rfl, hKS0, hKS⟩, ra, rb, ru, fr17⟩
   clear q0 q1 q2 q3 q4 q5 q6 q7 q8 q9 q10 qf ql
   have hs17 := fr17.size
   have FR17 := Lib.hid fr17
   clear fr17
   have hKE : KS = 1 + 1 * (n11 : Int) + 4 * (m11 : Int) + (nu11 : Int) := hKS rfl rfl rfl
   have MK8 : Hid (StMk w17 A11 B11 U11 n11 m11 nu11) := Lib.hid ⟨ra, rb, ru, fun g hg => Nat.lt_of_lt_of_le (O8.out.rd.lA g hg) FR17.out.size, fun g hg => Nat.lt_of_lt_of_le (O8.out.rd.lB g hg) FR17.out.size, fun g hg => Nat.lt_of_lt_of_le (O8.out.rd.lU g hg) FR17.out.size⟩
   have NN8 : Hid (n11 ≤ 1048576 ∧ m11 ≤ 1048576 ∧ nu11 ≤ 1048576) := Lib.hid ⟨O8.out.n, O8.out.m, O8.out.nu⟩
   have HKE := Lib.hid hKE
   clear ra rb ru hKS hKE
   replace XA := Lib.hid (XA.out.fr FR17.out (fun h => by have q9 := RG8.out _ h; have mHBN8 := HBN8.out; omega) (fun k h => by have q9 := RG8.out _ h; omega))
   replace XV := Lib.hid (XV.out.fr FR17.out (fun h => by have q9 := RG8.out _ h; have mHBN8 := HBN8.out; omega) (fun k h => by have q9 := RG8.out _ h; omega))
   replace XW := Lib.hid (XW.out.fr FR17.out (fun h => by have q9 := RG8.out _ h; have mHBN8 := HBN8.out; omega) (fun k h => by have q9 := RG8.out _ h; omega))
   replace XX := Lib.hid (XX.out.fr FR17.out (fun h => by have q9 := RG8.out _ h; have mHBN8 := HBN8.out; omega) (fun k h => by have q9 := RG8.out _ h; omega))
   replace XG := Lib.hid (XG.out.fr FR17.out (fun h => NB11.out h) (fun k h => by have q9 := RG8.out _ h; omega))
   replace O4 := Lib.hid (O4.out.fr FR17.out (fun k h1 h2 => by have q1 := RG4.out k h1; have q2 := RG8.out k h2; omega))
   clear O8
   clear FR17
   have hKSn : ¬ KS < 0 := by omega
   have q0 := zAb XG.out.bx 0 rfl
   have q1 := zAb XG.out.bx 1 rfl
   have q2 := zAb XG.out.bx 2 rfl
   have q3 := zAb XG.out.bx 3 rfl
   have q4 := zAb XG.out.bx 4 rfl
   have q5 := zAb XG.out.bx 5 rfl
   have q6 := zAb XG.out.bx 6 rfl
   have q7 := zAb XG.out.bx 7 rfl
   have q8 := zAb XG.out.bx 8 rfl
   have q9 := zAb XG.out.bx 9 rfl
   have q10 := zAb XG.out.bx 10 rfl
   have qf := zAh XG.out.bx
   have ql := zAf XG.out.bx
   simp only [zgc, zga, zgb] at q0 q1 q2 q3 q4 q5 q6 q7 q8 q9 q10
   go_wp2_with fail
   refine (heldState_nil A11 B11 U11 K11 R11 E11 n11 m11 nu11 c11 d11 cu11 ck11 cr11 ce11 ES _ NN8.out.1 NN8.out.2.1 NN8.out.2.2 MK8.out.par MK8.out.nodes MK8.out.up MK8.out.lA MK8.out.lB MK8.out.lU).mono ?_
   rintro e w18 ⟨rfl, hb18⟩
   clear q0 q1 q2 q3 q4 q5 q6 q7 q8 q9 q10 qf ql
   have hs18 := hb18.size
   replace XA := Lib.hid (XA.out.step hb18)
   replace XV := Lib.hid (XV.out.step hb18)
   replace XW := Lib.hid (XW.out.step hb18)
   replace XX := Lib.hid (XX.out.step hb18)
   replace XG := Lib.hid (XG.out.step hb18)
   replace O4 := Lib.hid (O4.out.bel hb18)
   replace MK8 := Lib.hid (MK8.out.bel hb18)
   clear hb18
   rw [← HKE.out]
   have k0 := zAb XA.out.bx 0 rfl
   have k1 := zAb XA.out.bx 1 rfl
   have kf := zAh XA.out.bx
   have kl := zAf XA.out.bx
   simp only [zgc, zga, zgb] at k0 k1
   have y0 := zAb XV.out.bx 0 rfl
   have y1 := zAb XV.out.bx 1 rfl
   have y2 := zAb XV.out.bx 2 rfl
   have yf := zAh XV.out.bx
   have yl := zAf XV.out.bx
   simp only [zgc, zga, zgb] at y0 y1 y2
   go_wp2_with fail
   go_cut [16, 17] (fun p9 q9 wr => ∃ (bw : Nat) (aR : SA), p9 = .pointer (some ⟨bw, 0, none⟩) ∧ q9 = .bool EB ∧ wr.heap[bw]? = some (.cells #[.slice aR.A aR.n aR.c, .slice aR.B aR.m aR.d, .slice aR.U aR.nu aR.cu, .int .i64 ES.lic.A, .int .i64 ES.lic.B, .int .i64 ES.lic.C, .int .i64 ES.dep, .int .i64 ES.now, .slice aR.K aR.nk aR.ck, .slice aR.R aR.nr aR.cr, .slice aR.E aR.ne aR.ce] 77 (0, 0)) ∧ StOwn wr w18.heap.size aR ES [] ∧ w18.heap.size ≤ bw ∧ Below w18.heap.size w18 wr)
   case first =>
    go_region_held3 (fun w' => w'.cell? ⟨w.heap.size, 0, none⟩ = some (.slice A n c) ∧ w'.cell? ⟨w.heap.size, 1, none⟩ = some (.slice B m d) ∧ w'.cell? ⟨w.heap.size + 1, 0, none⟩ = some (.int .i64 v.A) ∧ w'.cell? ⟨w.heap.size + 1, 1, none⟩ = some (.int .i64 v.B) ∧ w'.cell? ⟨w.heap.size + 1, 2, none⟩ = some (.int .i64 v.C)) (simp [go_sem, *, World.cell?_alloc_some, World.cell?_setCell_far, Nat.lt_add_right, Nat.ne_of_gt]) (first | (go_at_call 39; refine (toTopo_any A B n c m d ps ns _ HNM.out.1 HNM.out.2 (HR.out.below (by repeat (first | exact XA.out.bel | (refine zAc ?_ (zAa _ _)) | (refine zAc ?_ (by assumption)) | refine Below.drew ?_))) (HQ.out.below (by repeat (first | exact XA.out.bel | (refine zAc ?_ (zAa _ _)) | (refine zAc ?_ (by assumption)) | refine Below.drew ?_)))).mono ?_; rintro e w19 ⟨u19, x19, rfl, oA, oB, hb19⟩; obtain ⟨A19, c19, rfl, _⟩ := zAt oA; obtain ⟨B19, d19, rfl, _⟩ := zAt oB; have OA19 := Lib.hid oA; have OB19 := Lib.hid oB; clear oA oB; have hs19 := hb19.size; (try simp at hs19); have hy19_0 : w.heap.size < w19.heap.size := (by omega); have hk19_0 := fun o => hb19.cell (p := ⟨w.heap.size, o, none⟩) zOm; have hg19_0 := fun o => hb19.frozen (p := ⟨w.heap.size, o, none⟩) zOm; have hy19_1 : w.heap.size + 1 < w19.heap.size := (by omega); have hk19_1 := fun o => hb19.cell (p := ⟨w.heap.size + 1, o, none⟩) zOm; have hg19_1 := fun o => hb19.frozen (p := ⟨w.heap.size + 1, o, none⟩) zOm; (try (have hxy19_0 : w18.heap.size < w19.heap.size := (by omega); have hxk19_0 := fun o => hb19.cell (p := ⟨w18.heap.size, o, none⟩) zOm; have hxg19_0 := fun o => hb19.frozen (p := ⟨w18.heap.size, o, none⟩) zOm))) | (go_at_call 40; refine (toVec_raw _ _ _ _).mono ?_; rintro e w20 ⟨rfl, hb20⟩; have hs20 := hb20.size; (try simp at hs20); have hy20_0 : w.heap.size < w20.heap.size := (by omega); have hk20_0 := fun o => hb20.cell (p := ⟨w.heap.size, o, none⟩) zOm; have hg20_0 := fun o => hb20.frozen (p := ⟨w.heap.size, o, none⟩) zOm; have hy20_1 : w.heap.size + 1 < w20.heap.size := (by omega); have hk20_1 := fun o => hb20.cell (p := ⟨w.heap.size + 1, o, none⟩) zOm; have hg20_1 := fun o => hb20.frozen (p := ⟨w.heap.size + 1, o, none⟩) zOm; (try (have hxy20_0 : w18.heap.size < w20.heap.size := (by omega); have hxk20_0 := fun o => hb20.cell (p := ⟨w18.heap.size, o, none⟩) zOm; have hxg20_0 := fun o => hb20.frozen (p := ⟨w18.heap.size, o, none⟩) zOm)); (try (have hxy20_1 : w19.heap.size < w20.heap.size := (by omega); have hxk20_1 := fun o => hb20.cell (p := ⟨w19.heap.size, o, none⟩) zOm; have hxg20_1 := fun o => hb20.frozen (p := ⟨w19.heap.size, o, none⟩) zOm))) | (go_at_call 41; refine (HIC.out HNM.out.1 HNM.out.2 A19 B19 c19 d19 _ _ (zAe OA19.out (by repeat (first | exact Below.refl _ _ | (refine zAc ?_ (zAa _ _)) | (refine zAc ?_ (by assumption)) | refine Below.drew ?_))) (zAe OB19.out (by repeat (first | exact Below.refl _ _ | (refine zAc ?_ (zAa _ _)) | (refine zAc ?_ (by assumption)) | refine Below.drew ?_)))).mono ?_; rintro e w21 ⟨⟨A21, B21, U21, K21, R21, E21, n21, m21, nu21, nk21, nr21, ne21, c21, d21, cu21, ck21, cr21, ce21⟩, rfl, own21, hb21⟩; have OS21 := Lib.hid own21; clear own21; dsimp only [SA.v]; have hs21 := hb21.size; (try simp at hs21); have hy21_0 : w.heap.size < w21.heap.size := (by omega); have hk21_0 := fun o => hb21.cell (p := ⟨w.heap.size, o, none⟩) zOm; have hg21_0 := fun o => hb21.frozen (p := ⟨w.heap.size, o, none⟩) zOm; have hy21_1 : w.heap.size + 1 < w21.heap.size := (by omega); have hk21_1 := fun o => hb21.cell (p := ⟨w.heap.size + 1, o, none⟩) zOm; have hg21_1 := fun o => hb21.frozen (p := ⟨w.heap.size + 1, o, none⟩) zOm; (try (have hxy21_0 : w18.heap.size < w21.heap.size := (by omega); have hxk21_0 := fun o => hb21.cell (p := ⟨w18.heap.size, o, none⟩) zOm; have hxg21_0 := fun o => hb21.frozen (p := ⟨w18.heap.size, o, none⟩) zOm)); (try (have hxy21_1 : w19.heap.size < w21.heap.size := (by omega); have hxk21_1 := fun o => hb21.cell (p := ⟨w19.heap.size, o, none⟩) zOm; have hxg21_1 := fun o => hb21.frozen (p := ⟨w19.heap.size, o, none⟩) zOm)); (try (have hxy21_2 : w20.heap.size < w21.heap.size := (by omega); have hxk21_2 := fun o => hb21.cell (p := ⟨w20.heap.size, o, none⟩) zOm; have hxg21_2 := fun o => hb21.frozen (p := ⟨w20.heap.size, o, none⟩) zOm))))
    all_goals (go_wp2; go_meet)
    case rel =>
     with_reducible refine ⟨_, ⟨A21, B21, U21, K21, R21, E21, n21, m21, nu21, nk21, nr21, ne21, c21, d21, cu21, ck21, cr21, ce21⟩, rfl, rfl, heap_at9 _ _, (OS21.out.mono ?_).bel (zAa _ _), ?_, zAc (zAc (zAc (zAc (Below.refl _ _).drew hb19) hb20) hb21) (zAa _ _)⟩
     all_goals (first | omega | (simp <;> omega))
    case rel =>
     with_reducible refine ⟨_, ⟨A21, B21, U21, K21, R21, E21, n21, m21, nu21, nk21, nr21, ne21, c21, d21, cu21, ck21, cr21, ce21⟩, rfl, rfl, hset11 (zAg (heap_at9 _ _) hb21), (OS21.out.mono ?_).set11 (zAg (heap_at9 _ _) hb21) _ _ _ _ _ _ _ _ _ _ _, ?_, bel_set11 (zAc (zAc (zAc (zAc (Below.refl _ _).drew hb19) hb20) (zAa _ _)) hb21) ?_ _ _ _ _ _ _ _ _ _ _ _⟩
     all_goals (first | omega | (simp <;> omega))
    case rel =>
     with_reducible refine ⟨_, ⟨A21, B21, U21, K21, R21, E21, n21, m21, nu21, nk21, nr21, ne21, c21, d21, cu21, ck21, cr21, ce21⟩, rfl, rfl, hset11 (zAg (zAg (heap_at9 _ _) hb20) hb21), (OS21.out.mono ?_).set11 (zAg (zAg (heap_at9 _ _) hb20) hb21) _ _ _ _ _ _ _ _ _ _ _, ?_, bel_set11 (zAc (zAc (zAc (zAc (Below.refl _ _).drew hb19) (zAa _ _)) hb20) hb21) ?_ _ _ _ _ _ _ _ _ _ _ _⟩
     all_goals (first | omega | (simp <;> omega))
    case rel =>
     with_reducible refine ⟨_, ⟨A21, B21, U21, K21, R21, E21, n21, m21, nu21, nk21, nr21, ne21, c21, d21, cu21, ck21, cr21, ce21⟩, rfl, rfl, hset11 (zAg (zAg (zAg (heap_at9d _ _) hb19) hb20) hb21), (OS21.out.mono ?_).set11 (zAg (zAg (zAg (heap_at9d _ _) hb19) hb20) hb21) _ _ _ _ _ _ _ _ _ _ _, ?_, bel_set11 (zAc (zAc (zAc (zAc (Below.refl _ _) (zAa _ _)).drew hb19) hb20) hb21) ?_ _ _ _ _ _ _ _ _ _ _ _⟩
     all_goals (first | omega | (simp <;> omega))
   case rest =>
    obtain ⟨w22, rfl⟩ : ∃ x, x = wc := ⟨wc, rfl⟩
    obtain ⟨b22, ⟨A22, B22, U22, K22, R22, E22, n22, m22, nu22, nk22, nr22, ne22, c22, d22, cu22, ck22, cr22, ce22⟩, rfl, rfl, bx22, own22, hl22, hb22⟩ := hcut
    obtain ⟨z1, z2, z3⟩ := own22.zero HZ.out
    dsimp only at z1 z2 z3
    subst z1 z2 z3
    dsimp only at bx22
    clear k0 k1 kf kl
    clear y0 y1 y2 yf yl
    have hs22 := hb22.size
    have XH : Hid (BX w w22 b22 77 [.slice A22 n22 c22, .slice B22 m22 d22, .slice U22 nu22 cu22, .int .i64 ES.lic.A, .int .i64 ES.lic.B, .int .i64 ES.lic.C, .int .i64 ES.dep, .int .i64 ES.now, .slice K22 0 ck22, .slice R22 0 cr22, .slice E22 0 ce22]) := Lib.hid ⟨bx22, zAc XA.out.bel hb22, Nat.le_trans XA.out.bel.size hl22⟩
    replace XA := Lib.hid (XA.out.step hb22)
    replace XV := Lib.hid (XV.out.step hb22)
    replace XW := Lib.hid (XW.out.step hb22)
    replace XX := Lib.hid (XX.out.step hb22)
    replace XG := Lib.hid (XG.out.step hb22)
    replace O4 := Lib.hid (O4.out.bel hb22)
    replace MK8 := Lib.hid (MK8.out.bel hb22)
    have O9 := Lib.hid own22
    have RG9 : Hid (∀ k, atS ⟨A22, B22, U22, K22, R22, E22, n22, m22, nu22, 0, 0, 0, c22, d22, cu22, ck22, cr22, ce22⟩ [] k → w18.heap.size ≤ k ∧ k < w22.heap.size) := Lib.hid own22.rng
    have hbl22 := zAf bx22
    clear own22 bx22 hb22
    have NB22 : Hid (¬ atS ⟨A22, B22, U22, K22, R22, E22, n22, m22, nu22, 0, 0, 0, c22, d22, cu22, ck22, cr22, ce22⟩ [] b22) := Lib.hid (O9.out.nbox XH.out.bx)
    have g0 := zAb XW.out.bx 0 rfl
    have g1 := zAb XW.out.bx 1 rfl
    have g2 := zAb XW.out.bx 2 rfl
    have g3 := zAb XW.out.bx 3 rfl
    have g4 := zAb XW.out.bx 4 rfl
    have g5 := zAb XW.out.bx 5 rfl
    have g6 := zAb XW.out.bx 6 rfl
    have g7 := zAb XW.out.bx 7 rfl
    have g8 := zAb XW.out.bx 8 rfl
    have g9 := zAb XW.out.bx 9 rfl
    have g10 := zAb XW.out.bx 10 rfl
    have gf := zAh XW.out.bx
    have gl := zAf XW.out.bx
    simp only [zgc, zga, zgb] at g0 g1 g2 g3 g4 g5 g6 g7 g8 g9 g10
    have h0 := zAb XH.out.bx 0 rfl
    have h1 := zAb XH.out.bx 1 rfl
    have h2 := zAb XH.out.bx 2 rfl
    have h3 := zAb XH.out.bx 3 rfl
    have h4 := zAb XH.out.bx 4 rfl
    have h5 := zAb XH.out.bx 5 rfl
    have h6 := zAb XH.out.bx 6 rfl
    have h7 := zAb XH.out.bx 7 rfl
    have h8 := zAb XH.out.bx 8 rfl
    have h9 := zAb XH.out.bx 9 rfl
    have h10 := zAb XH.out.bx 10 rfl
    have hf := zAh XH.out.bx
    have hl := zAf XH.out.bx
    simp only [zgc, zga, zgb] at h0 h1 h2 h3 h4 h5 h6 h7 h8 h9 h10
    go_wp2_with fail
    refine (eqState_any ⟨A22, B22, U22, K22, R22, E22, n22, m22, nu22, 0, 0, 0, c22, d22, cu22, ck22, cr22, ce22⟩ ⟨A6, B6, U6, K6, R6, E6, n6, m6, nu6, 0, 0, 0, c6, d6, cu6, ck6, cr6, ce6⟩ ES [] [] _ O9.out.rd O4.out.rd (O9.out.same O4.out)).mono ?_
    rintro e w23 ⟨rfl, hb23⟩
    clear g0 g1 g2 g3 g4 g5 g6 g7 g8 g9 g10 gf gl
    clear h0 h1 h2 h3 h4 h5 h6 h7 h8 h9 h10 hf hl
    have hs23 := hb23.size
    replace XA := Lib.hid (XA.out.step hb23)
    replace XV := Lib.hid (XV.out.step hb23)
    replace XW := Lib.hid (XW.out.step hb23)
    replace XX := Lib.hid (XX.out.step hb23)
    replace XG := Lib.hid (XG.out.step hb23)
    replace XH := Lib.hid (XH.out.step hb23)
    replace O4 := Lib.hid (O4.out.bel hb23)
    replace MK8 := Lib.hid (MK8.out.bel hb23)
    replace O9 := Lib.hid (O9.out.bel hb23)
    clear hb23
    have q0 := zAb XG.out.bx 0 rfl
    have q1 := zAb XG.out.bx 1 rfl
    have q2 := zAb XG.out.bx 2 rfl
    have q3 := zAb XG.out.bx 3 rfl
    have q4 := zAb XG.out.bx 4 rfl
    have q5 := zAb XG.out.bx 5 rfl
    have q6 := zAb XG.out.bx 6 rfl
    have q7 := zAb XG.out.bx 7 rfl
    have q8 := zAb XG.out.bx 8 rfl
    have q9 := zAb XG.out.bx 9 rfl
    have q10 := zAb XG.out.bx 10 rfl
    have qf := zAh XG.out.bx
    have ql := zAf XG.out.bx
    simp only [zgc, zga, zgb] at q0 q1 q2 q3 q4 q5 q6 q7 q8 q9 q10
    go_wp2_with fail
    refine (heldState_nil A11 B11 U11 K11 R11 E11 n11 m11 nu11 c11 d11 cu11 ck11 cr11 ce11 ES _ NN8.out.1 NN8.out.2.1 NN8.out.2.2 MK8.out.par MK8.out.nodes MK8.out.up MK8.out.lA MK8.out.lB MK8.out.lU).mono ?_
    rintro e w24 ⟨rfl, hb24⟩
    clear q0 q1 q2 q3 q4 q5 q6 q7 q8 q9 q10 qf ql
    have hs24 := hb24.size
    replace XA := Lib.hid (XA.out.step hb24)
    replace XV := Lib.hid (XV.out.step hb24)
    replace XW := Lib.hid (XW.out.step hb24)
    replace XX := Lib.hid (XX.out.step hb24)
    replace XG := Lib.hid (XG.out.step hb24)
    replace XH := Lib.hid (XH.out.step hb24)
    replace O4 := Lib.hid (O4.out.bel hb24)
    replace MK8 := Lib.hid (MK8.out.bel hb24)
    replace O9 := Lib.hid (O9.out.bel hb24)
    clear hb24
    rw [← HKE.out]
    go_wp2
    go_ret
    exact ⟨rfl, XA.out.bel⟩
end Go.Proofs.YtnphjhbfpoekpaaGreat
