import Derived.Test.YtnphjhbfpoekpaaGreatWbPk
import Derived.Test.YtnphjhbfpoekpaaGreatWcPk
import Derived.Test.YtnphjhbfpoekpaaGreatA8Pk
namespace Go.Proofs.YtnphjhbfpoekpaaGreat
set_option linter.unusedSimpArgs false
set_option linter.unusedVariables false
set_option linter.unnecessarySimpa false
open Go.RowKit
structure SA where
 A : Option Addr
 B : Option Addr
 U : Option Addr
 K : Option Addr
 R : Option Addr
 E : Option Addr
 n : Nat
 m : Nat
 nu : Nat
 nk : Nat
 nr : Nat
 ne : Nat
 c : Nat
 d : Nat
 cu : Nat
 ck : Nat
 cr : Nat
 ce : Nat
def SA.v (a : SA) (s : St) : Value := .agg #[.slice a.A a.n a.c, .slice a.B a.m a.d, .slice a.U a.nu a.cu, .int .i64 s.lic.A, .int .i64 s.lic.B, .int .i64 s.lic.C, .int .i64 s.dep, .int .i64 s.now, .slice a.K a.nk a.ck, .slice a.R a.nr a.cr, .slice a.E a.ne a.ce]
structure StMax (a : SA) : Prop where
 n : a.n ≤ maxLen
 m : a.m ≤ maxLen
 nu : a.nu ≤ maxLen
 nk : a.nk ≤ maxLen
 nr : a.nr ≤ maxLen
 ne : a.ne ≤ maxLen
structure StSz (a : SA) (s : St) : Prop where
 n : a.n ≤ 1048576
 m : a.m ≤ 1048576
 nu : a.nu ≤ 1048576
 nk : a.nk ≤ 1048576
 nr : a.nr ≤ 1048576
 ne : a.ne ≤ 1048576
 kr : a.nk + a.nr ≤ 1048576
 nds : ∀ x ∈ s.runs, x.nd.length ≤ 1048576
structure StIn (w : World) (a : SA) (s : St) : Prop where
 par : RdI w a.A a.n s.par
 nodes : RdE w a.B a.m s.nodes
 up : RdB w a.U a.nu s.up
 queue : RdJ w a.K a.nk s.queue
 runs : RdNI w a.R a.nr s.runs
 ends : RdEn w a.E a.ne s.ends
theorem StIn.below {w w' : World} {a : SA} {s : St} (h : StIn w a s) (hb : Below w.heap.size w w') : StIn w' a s := ⟨h.par.below hb, h.nodes.below hb, h.up.below hb, h.queue.below hb, h.runs.below hb, h.ends.below hb⟩
structure StRd (w : World) (a : SA) (s : St) (ss : List Value) : Prop where
 n : a.n ≤ 1048576
 m : a.m ≤ 1048576
 nu : a.nu ≤ 1048576
 nk : a.nk ≤ 1048576
 nr : a.nr ≤ 1048576
 ne : a.ne ≤ 1048576
 kr : a.nk + a.nr ≤ 1048576
 par : Rd w a.A a.n 1 (ints s.par)
 nodes : Rd w a.B a.m 4 (flat s.nodes)
 up : Rd w a.U a.nu 1 (bools s.up)
 queue : Rd w a.K a.nk 11 (jflat s.queue)
 runs : RdN w a.R a.nr ss s.runs
 ends : Rd w a.E a.ne 3 (eflat s.ends)
 lA : ∀ g, a.A = some ⟨g, 0, none⟩ → g < w.heap.size
 lB : ∀ g, a.B = some ⟨g, 0, none⟩ → g < w.heap.size
 lU : ∀ g, a.U = some ⟨g, 0, none⟩ → g < w.heap.size
 lK : ∀ g, a.K = some ⟨g, 0, none⟩ → g < w.heap.size
 lE : ∀ g, a.E = some ⟨g, 0, none⟩ → g < w.heap.size
 kA : a.n ≤ a.c ∧ a.c ≤ 9223372036854775807
 kB : a.m ≤ a.d ∧ a.d ≤ 9223372036854775807
 kU : a.nu ≤ a.cu ∧ a.cu ≤ 9223372036854775807
 kK : a.nk ≤ a.ck ∧ a.ck ≤ 9223372036854775807
 kR : a.nr ≤ a.cr ∧ a.cr ≤ 9223372036854775807
 aA : (a.A = none ∧ a.n = 0 ∧ a.c = 0) ∨ ∃ g, a.A = some ⟨g, 0, none⟩
 aB : (a.B = none ∧ a.m = 0 ∧ a.d = 0) ∨ ∃ g, a.B = some ⟨g, 0, none⟩
 aU : (a.U = none ∧ a.nu = 0 ∧ a.cu = 0) ∨ ∃ g, a.U = some ⟨g, 0, none⟩
 aK : (a.K = none ∧ a.nk = 0 ∧ a.ck = 0) ∨ ∃ g, a.K = some ⟨g, 0, none⟩
theorem StRd.bel {w w' : World} {a : SA} {s : St} {ss : List Value} (h : StRd w a s ss) (hb : Below w.heap.size w w') : StRd w' a s ss :=
 ⟨h.n, h.m, h.nu, h.nk, h.nr, h.ne, h.kr, h.par.below h.lA hb, h.nodes.below h.lB hb, h.up.below h.lU hb, h.queue.below h.lK hb, h.runs.bel hb, h.ends.below h.lE hb, zAm h.lA hb, zAm h.lB hb, zAm h.lU hb, zAm h.lK hb, zAm h.lE hb, h.kA, h.kB, h.kU, h.kK, h.kR, h.aA, h.aB, h.aU, h.aK⟩
structure StOwn (w : World) (lo : Nat) (a : SA) (s : St) (ss : List Value) : Prop where
 n : a.n ≤ 1048576
 m : a.m ≤ 1048576
 nu : a.nu ≤ 1048576
 nk : a.nk ≤ 1048576
 nr : a.nr ≤ 1048576
 ne : a.ne ≤ 1048576
 kr : a.nk + a.nr ≤ 1048576
 par : w.ownsRow lo 3 1 (.slice a.A a.n a.c) a.n (ints s.par)
 nodes : w.ownsRow lo 199 4 (.slice a.B a.m a.d) a.m (flat s.nodes)
 up : w.ownsRow lo 4 1 (.slice a.U a.nu a.cu) a.nu (bools s.up)
 queue : w.ownsRow lo 95 11 (.slice a.K a.nk a.ck) a.nk (jflat s.queue)
 runs : OwnN w lo (.slice a.R a.nr a.cr) a.nr ss s.runs
 ends : w.ownsRow lo 139 3 (.slice a.E a.ne a.ce) a.ne (eflat s.ends)
 apart : ∀ (i : Nat) x, ss[i]? = some x → ∀ b, x.ownBlock = some b → ¬ atB a.A b
theorem StOwn.bel {w w' : World} {lo : Nat} {a : SA} {s : St} {ss : List Value} (h : StOwn w lo a s ss) (hb : Below w.heap.size w w') : StOwn w' lo a s ss :=
 ⟨h.n, h.m, h.nu, h.nk, h.nr, h.ne, h.kr, zAe h.par hb, zAe h.nodes hb, zAe h.up hb, zAe h.queue hb, h.runs.bel hb, zAe h.ends hb, h.apart⟩
theorem StOwn.mono {w : World} {lo lo' : Nat} {a : SA} {s : St} {ss : List Value} (h : StOwn w lo a s ss) (hl : lo' ≤ lo) : StOwn w lo' a s ss :=
 ⟨h.n, h.m, h.nu, h.nk, h.nr, h.ne, h.kr, zAo h.par hl, zAo h.nodes hl, zAo h.up hl, zAo h.queue hl, h.runs.mono hl, zAo h.ends hl, h.apart⟩
theorem own_addrS {w : World} {lo : Nat} {e : TypeId} {size : Nat} {A : Option Addr} {n c : Nat} {xs : List Value} (h : w.ownsRow lo e size (.slice A n c) n xs) : (A = none ∧ n = 0 ∧ c = 0) ∨ ∃ g, A = some ⟨g, 0, none⟩ := by
 rcases h.2 with ⟨h0, h1⟩ | ⟨g, cap, cur, hv, _⟩
 ·cases h0; exact Or.inl ⟨rfl, rfl, rfl⟩
 ·cases hv; exact Or.inr ⟨g, rfl⟩
theorem StOwn.rd {w : World} {lo : Nat} {a : SA} {s : St} {ss : List Value} (h : StOwn w lo a s ss) : StRd w a s ss :=
 ⟨h.n, h.m, h.nu, h.nk, h.nr, h.ne, h.kr, own_rdd' h.par, own_rdd' h.nodes, own_rdd' h.up, own_rdd' h.queue, h.runs.rd, own_rdd' h.ends, own_blk h.par, own_blk h.nodes, own_blk h.up, own_blk h.queue, own_blk h.ends, own_cap9 h.par, own_cap9 h.nodes, own_cap9 h.up, own_cap9 h.queue, own_cap9 h.runs.own, own_addrS h.par, own_addrS h.nodes, own_addrS h.up, own_addrS h.queue⟩
theorem OwnN.sets {lo b : Nat} (hb : b < lo) {v : Value} {n : Nat} {ss : List Value} {hs : List Rn} (vs : List Value) (o : Nat) {wr : World} (h : OwnN wr lo v n ss hs) : OwnN (wr.setCells b o vs) lo v n ss hs :=
 ⟨own_sets hb vs o h.own, h.len, h.slen, fun k x p a c => ⟨(h.each k x p a c).1, own_sets hb vs o (h.each k x p a c).2⟩, h.apart⟩
set_option maxHeartbeats 8000000 in
set_option maxRecDepth 20000 in
theorem toState_any (a : SA) (s : St) (w : World) (hx : StSz a s) (hr : StIn w a s) :
  Calls Tryz.prog 27 #[a.v s] w fun e w' => ∃ a' ss, e = .returned (SA.v a' s) ∧ (a'.n = a.n ∧ a'.m = a.m ∧ a'.nu = a.nu ∧ a'.nk = a.nk ∧ a'.nr = a.nr ∧ a'.ne = a.ne) ∧ StOwn w' w.heap.size a' s ss ∧ Below w.heap.size w w' := by
 obtain ⟨A, B, U, K, R, E, n, m, nu, nk, nr, ne, c, d, cu, ck, cr, ce⟩ := a
 dsimp only [SA.v]
 have HX := Lib.hid hx
 have HR := Lib.hid hr
 clear hx hr
 have BE : Below w.heap.size w (((w.alloc (.cells #[.slice A n c, .slice B m d, .slice U nu cu, .int .i64 s.lic.A, .int .i64 s.lic.B, .int .i64 s.lic.C, .int .i64 s.dep, .int .i64 s.now, .slice K nk ck, .slice R nr cr, .slice E ne ce] 70)).alloc (.cells #[.slice none 0 0, .slice none 0 0, .slice none 0 0, .int .i64 0, .int .i64 0, .int .i64 0, .int .i64 0, .int .i64 0, .slice none 0 0, .slice none 0 0, .slice none 0 0] 77)).alloc (.cells #[.slice none 0 0, .slice none 0 0, .slice none 0 0, .int .i64 0, .int .i64 0, .int .i64 0, .int .i64 0, .int .i64 0, .slice none 0 0, .slice none 0 0, .slice none 0 0] 77)) := zAc (zAc (zAa _ _) (zAa _ _)) (zAa _ _)
 have XP0 : Hid (BX w (((w.alloc (.cells #[.slice A n c, .slice B m d, .slice U nu cu, .int .i64 s.lic.A, .int .i64 s.lic.B, .int .i64 s.lic.C, .int .i64 s.dep, .int .i64 s.now, .slice K nk ck, .slice R nr cr, .slice E ne ce] 70)).alloc (.cells #[.slice none 0 0, .slice none 0 0, .slice none 0 0, .int .i64 0, .int .i64 0, .int .i64 0, .int .i64 0, .int .i64 0, .slice none 0 0, .slice none 0 0, .slice none 0 0] 77)).alloc (.cells #[.slice none 0 0, .slice none 0 0, .slice none 0 0, .int .i64 0, .int .i64 0, .int .i64 0, .int .i64 0, .int .i64 0, .slice none 0 0, .slice none 0 0, .slice none 0 0] 77)) (w.heap.size) 70 [.slice A n c, .slice B m d, .slice U nu cu, .int .i64 s.lic.A, .int .i64 s.lic.B, .int .i64 s.lic.C, .int .i64 s.dep, .int .i64 s.now, .slice K nk ck, .slice R nr cr, .slice E ne ce]) := Lib.hid ⟨zAu (zAu (zAp _ rfl) _) _, BE, Nat.le_refl _⟩
 have XR0 : Hid (BX w (((w.alloc (.cells #[.slice A n c, .slice B m d, .slice U nu cu, .int .i64 s.lic.A, .int .i64 s.lic.B, .int .i64 s.lic.C, .int .i64 s.dep, .int .i64 s.now, .slice K nk ck, .slice R nr cr, .slice E ne ce] 70)).alloc (.cells #[.slice none 0 0, .slice none 0 0, .slice none 0 0, .int .i64 0, .int .i64 0, .int .i64 0, .int .i64 0, .int .i64 0, .slice none 0 0, .slice none 0 0, .slice none 0 0] 77)).alloc (.cells #[.slice none 0 0, .slice none 0 0, .slice none 0 0, .int .i64 0, .int .i64 0, .int .i64 0, .int .i64 0, .int .i64 0, .slice none 0 0, .slice none 0 0, .slice none 0 0] 77)) (w.heap.size + 1) 77 [.slice none 0 0, .slice none 0 0, .slice none 0 0, .int .i64 0, .int .i64 0, .int .i64 0, .int .i64 0, .int .i64 0, .slice none 0 0, .slice none 0 0, .slice none 0 0]) := Lib.hid ⟨zAu (zAp _ (by simp)) _, BE, by omega⟩
 have XO0 : Hid (BX w (((w.alloc (.cells #[.slice A n c, .slice B m d, .slice U nu cu, .int .i64 s.lic.A, .int .i64 s.lic.B, .int .i64 s.lic.C, .int .i64 s.dep, .int .i64 s.now, .slice K nk ck, .slice R nr cr, .slice E ne ce] 70)).alloc (.cells #[.slice none 0 0, .slice none 0 0, .slice none 0 0, .int .i64 0, .int .i64 0, .int .i64 0, .int .i64 0, .int .i64 0, .slice none 0 0, .slice none 0 0, .slice none 0 0] 77)).alloc (.cells #[.slice none 0 0, .slice none 0 0, .slice none 0 0, .int .i64 0, .int .i64 0, .int .i64 0, .int .i64 0, .int .i64 0, .slice none 0 0, .slice none 0 0, .slice none 0 0] 77)) (w.heap.size + 1 + 1) 77 [.slice none 0 0, .slice none 0 0, .slice none 0 0, .int .i64 0, .int .i64 0, .int .i64 0, .int .i64 0, .int .i64 0, .slice none 0 0, .slice none 0 0, .slice none 0 0]) := Lib.hid ⟨zAp _ (by simp), BE, by omega⟩
 clear BE
 go_enter Tryz.func27, Tryz.ntmps27
 go_upto_region 2 with fail
 generalize ((w.alloc (.cells #[.slice A n c, .slice B m d, .slice U nu cu, .int .i64 s.lic.A, .int .i64 s.lic.B, .int .i64 s.lic.C, .int .i64 s.dep, .int .i64 s.now, .slice K nk ck, .slice R nr cr, .slice E ne ce] 70)).alloc (.cells #[.slice none 0 0, .slice none 0 0, .slice none 0 0, .int .i64 0, .int .i64 0, .int .i64 0, .int .i64 0, .int .i64 0, .slice none 0 0, .slice none 0 0, .slice none 0 0] 77)).alloc (.cells #[.slice none 0 0, .slice none 0 0, .slice none 0 0, .int .i64 0, .int .i64 0, .int .i64 0, .int .i64 0, .int .i64 0, .slice none 0 0, .slice none 0 0, .slice none 0 0] 77) = w0 at *
 have k0 := zAb XP0.out.bx 0 rfl
 have k1 := zAb XP0.out.bx 1 rfl
 have kf := zAh XP0.out.bx
 have kl := zAf XP0.out.bx
 simp only [zgc, zga, zgb] at k0 k1
 go_wp2_with fail
 refine (toTopo_any A B n c m d s.par s.nodes _ HX.out.n HX.out.m (HR.out.par.below XP0.out.bel) (HR.out.nodes.below XP0.out.bel)).mono ?_
 rintro e w1 ⟨u1, u2, rfl, oA, oB, hb1⟩
 have hlo1 := zAf XO0.out.bx
 obtain ⟨A9, c9, rfl, _⟩ := zAt oA
 have OA_1 := Lib.hid (zAo (lo' := w.heap.size + 1 + 1 + 1) oA (by omega))
 clear oA
 obtain ⟨B9, d9, rfl, _⟩ := zAt oB
 have OB_1 := Lib.hid (zAo (lo' := w.heap.size + 1 + 1 + 1) oB (by omega))
 clear oB
 have XP1 := Lib.hid (XP0.out.step hb1)
 have XR1 := Lib.hid (XR0.out.step hb1)
 have XO1 := Lib.hid (XO0.out.step hb1)
 clear hb1 hlo1 k0 k1 kf kl XP0 XR0 XO0
 have o0 := zAb XO1.out.bx 0 rfl
 have o1 := zAb XO1.out.bx 1 rfl
 have of := zAh XO1.out.bx
 have ol := zAf XO1.out.bx
 simp only [zgc, zga, zgb] at o0 o1
 have XO2 : Hid (BX w ((w1.setCell ⟨w.heap.size + 1 + 1, 0, none⟩ (.slice A9 n c9)).setCell ⟨w.heap.size + 1 + 1, 1, none⟩ (.slice B9 m d9)) (w.heap.size + 1 + 1) 77 [.slice A9 n c9, .slice B9 m d9, .slice none 0 0, .int .i64 0, .int .i64 0, .int .i64 0, .int .i64 0, .int .i64 0, .slice none 0 0, .slice none 0 0, .slice none 0 0]) := Lib.hid (XO1.out.sets [.slice A9 n c9, .slice B9 m d9] 0)
 have XP2 : Hid (BX w ((w1.setCell ⟨w.heap.size + 1 + 1, 0, none⟩ (.slice A9 n c9)).setCell ⟨w.heap.size + 1 + 1, 1, none⟩ (.slice B9 m d9)) (w.heap.size) 70 [.slice A n c, .slice B m d, .slice U nu cu, .int .i64 s.lic.A, .int .i64 s.lic.B, .int .i64 s.lic.C, .int .i64 s.dep, .int .i64 s.now, .slice K nk ck, .slice R nr cr, .slice E ne ce]) := Lib.hid (XP1.out.fars (b' := w.heap.size + 1 + 1) (by omega) (by omega) [.slice A9 n c9, .slice B9 m d9] 0)
 have XR2 : Hid (BX w ((w1.setCell ⟨w.heap.size + 1 + 1, 0, none⟩ (.slice A9 n c9)).setCell ⟨w.heap.size + 1 + 1, 1, none⟩ (.slice B9 m d9)) (w.heap.size + 1) 77 [.slice none 0 0, .slice none 0 0, .slice none 0 0, .int .i64 0, .int .i64 0, .int .i64 0, .int .i64 0, .int .i64 0, .slice none 0 0, .slice none 0 0, .slice none 0 0]) := Lib.hid (XR1.out.fars (b' := w.heap.size + 1 + 1) (by omega) (by omega) [.slice A9 n c9, .slice B9 m d9] 0)
 have OA_2 := Lib.hid (own_sets (b := w.heap.size + 1 + 1) (lo := w.heap.size + 1 + 1 + 1) (by omega) [.slice A9 n c9, .slice B9 m d9] 0 OA_1.out)
 change Hid (World.ownsRow ((w1.setCell ⟨w.heap.size + 1 + 1, 0, none⟩ (.slice A9 n c9)).setCell ⟨w.heap.size + 1 + 1, 1, none⟩ (.slice B9 m d9)) _ _ _ _ _ _) at OA_2
 have OB_2 := Lib.hid (own_sets (b := w.heap.size + 1 + 1) (lo := w.heap.size + 1 + 1 + 1) (by omega) [.slice A9 n c9, .slice B9 m d9] 0 OB_1.out)
 change Hid (World.ownsRow ((w1.setCell ⟨w.heap.size + 1 + 1, 0, none⟩ (.slice A9 n c9)).setCell ⟨w.heap.size + 1 + 1, 1, none⟩ (.slice B9 m d9)) _ _ _ _ _ _) at OB_2
 clear XP1 XR1 XO1 OA_1 OB_1
 go_upto_region 3 with fail
 clear o0 o1 of ol
 generalize (w1.setCell ⟨w.heap.size + 1 + 1, 0, none⟩ (.slice A9 n c9)).setCell ⟨w.heap.size + 1 + 1, 1, none⟩ (.slice B9 m d9) = w2 at *
 have k2 := zAb XP2.out.bx 2 rfl
 have kf := zAh XP2.out.bx
 have kl := zAf XP2.out.bx
 simp only [zgc, zga, zgb] at k2
 go_wp2_with fail
 refine (toBoolS_any U nu cu s.up _ HX.out.nu (HR.out.up.below XP2.out.bel)).mono ?_
 rintro e w3 ⟨u3, rfl, oU, hb3⟩
 have hlo3 := zAf XO2.out.bx
 obtain ⟨U9, cu9, rfl, _⟩ := zAt oU
 have OU_3 := Lib.hid (zAo (lo' := w.heap.size + 1 + 1 + 1) oU (by omega))
 clear oU
 have XP3 := Lib.hid (XP2.out.step hb3)
 have XR3 := Lib.hid (XR2.out.step hb3)
 have XO3 := Lib.hid (XO2.out.step hb3)
 have OA_3 := Lib.hid (zAe OA_2.out hb3)
 have OB_3 := Lib.hid (zAe OB_2.out hb3)
 clear hb3 hlo3 k2 kf kl XP2 XR2 XO2
 have o2 := zAb XO3.out.bx 2 rfl
 have of := zAh XO3.out.bx
 have ol := zAf XO3.out.bx
 simp only [zgc, zga, zgb] at o2
 have XO4 : Hid (BX w (w3.setCell ⟨w.heap.size + 1 + 1, 2, none⟩ (.slice U9 nu cu9)) (w.heap.size + 1 + 1) 77 [.slice A9 n c9, .slice B9 m d9, .slice U9 nu cu9, .int .i64 0, .int .i64 0, .int .i64 0, .int .i64 0, .int .i64 0, .slice none 0 0, .slice none 0 0, .slice none 0 0]) := Lib.hid (XO3.out.sets [.slice U9 nu cu9] 2)
 have XP4 : Hid (BX w (w3.setCell ⟨w.heap.size + 1 + 1, 2, none⟩ (.slice U9 nu cu9)) (w.heap.size) 70 [.slice A n c, .slice B m d, .slice U nu cu, .int .i64 s.lic.A, .int .i64 s.lic.B, .int .i64 s.lic.C, .int .i64 s.dep, .int .i64 s.now, .slice K nk ck, .slice R nr cr, .slice E ne ce]) := Lib.hid (XP3.out.fars (b' := w.heap.size + 1 + 1) (by omega) (by omega) [.slice U9 nu cu9] 2)
 have XR4 : Hid (BX w (w3.setCell ⟨w.heap.size + 1 + 1, 2, none⟩ (.slice U9 nu cu9)) (w.heap.size + 1) 77 [.slice none 0 0, .slice none 0 0, .slice none 0 0, .int .i64 0, .int .i64 0, .int .i64 0, .int .i64 0, .int .i64 0, .slice none 0 0, .slice none 0 0, .slice none 0 0]) := Lib.hid (XR3.out.fars (b' := w.heap.size + 1 + 1) (by omega) (by omega) [.slice U9 nu cu9] 2)
 have OA_4 := Lib.hid (own_sets (b := w.heap.size + 1 + 1) (lo := w.heap.size + 1 + 1 + 1) (by omega) [.slice U9 nu cu9] 2 OA_3.out)
 change Hid (World.ownsRow (w3.setCell ⟨w.heap.size + 1 + 1, 2, none⟩ (.slice U9 nu cu9)) _ _ _ _ _ _) at OA_4
 have OB_4 := Lib.hid (own_sets (b := w.heap.size + 1 + 1) (lo := w.heap.size + 1 + 1 + 1) (by omega) [.slice U9 nu cu9] 2 OB_3.out)
 change Hid (World.ownsRow (w3.setCell ⟨w.heap.size + 1 + 1, 2, none⟩ (.slice U9 nu cu9)) _ _ _ _ _ _) at OB_4
 have OU_4 := Lib.hid (own_sets (b := w.heap.size + 1 + 1) (lo := w.heap.size + 1 + 1 + 1) (by omega) [.slice U9 nu cu9] 2 OU_3.out)
 change Hid (World.ownsRow (w3.setCell ⟨w.heap.size + 1 + 1, 2, none⟩ (.slice U9 nu cu9)) _ _ _ _ _ _) at OU_4
 clear XP3 XR3 XO3 OA_3 OB_3 OU_3
 go_upto_region 4 with fail
 clear o2 of ol
 generalize w3.setCell ⟨w.heap.size + 1 + 1, 2, none⟩ (.slice U9 nu cu9) = w4 at *
 have k3 := zAb XP4.out.bx 3 rfl
 have k4 := zAb XP4.out.bx 4 rfl
 have k5 := zAb XP4.out.bx 5 rfl
 have kf := zAh XP4.out.bx
 have kl := zAf XP4.out.bx
 simp only [zgc, zga, zgb] at k3 k4 k5
 go_wp2_with fail
 refine (toVec_raw _ _ _ _).mono ?_
 rintro e w5 ⟨rfl, hb5⟩
 have hlo5 := zAf XO4.out.bx
 have XP5 := Lib.hid (XP4.out.step hb5)
 have XR5 := Lib.hid (XR4.out.step hb5)
 have XO5 := Lib.hid (XO4.out.step hb5)
 have OA_5 := Lib.hid (zAe OA_4.out hb5)
 have OB_5 := Lib.hid (zAe OB_4.out hb5)
 have OU_5 := Lib.hid (zAe OU_4.out hb5)
 clear hb5 hlo5 k3 k4 k5 kf kl XP4 XR4 XO4
 have o3 := zAb XO5.out.bx 3 rfl
 have o4 := zAb XO5.out.bx 4 rfl
 have o5 := zAb XO5.out.bx 5 rfl
 have of := zAh XO5.out.bx
 have ol := zAf XO5.out.bx
 simp only [zgc, zga, zgb] at o3 o4 o5
 have XO6 : Hid (BX w (((w5.setCell ⟨w.heap.size + 1 + 1, 3, none⟩ (.int .i64 s.lic.A)).setCell ⟨w.heap.size + 1 + 1, 4, none⟩ (.int .i64 s.lic.B)).setCell ⟨w.heap.size + 1 + 1, 5, none⟩ (.int .i64 s.lic.C)) (w.heap.size + 1 + 1) 77 [.slice A9 n c9, .slice B9 m d9, .slice U9 nu cu9, .int .i64 s.lic.A, .int .i64 s.lic.B, .int .i64 s.lic.C, .int .i64 0, .int .i64 0, .slice none 0 0, .slice none 0 0, .slice none 0 0]) := Lib.hid (XO5.out.sets [.int .i64 s.lic.A, .int .i64 s.lic.B, .int .i64 s.lic.C] 3)
 have XP6 : Hid (BX w (((w5.setCell ⟨w.heap.size + 1 + 1, 3, none⟩ (.int .i64 s.lic.A)).setCell ⟨w.heap.size + 1 + 1, 4, none⟩ (.int .i64 s.lic.B)).setCell ⟨w.heap.size + 1 + 1, 5, none⟩ (.int .i64 s.lic.C)) (w.heap.size) 70 [.slice A n c, .slice B m d, .slice U nu cu, .int .i64 s.lic.A, .int .i64 s.lic.B, .int .i64 s.lic.C, .int .i64 s.dep, .int .i64 s.now, .slice K nk ck, .slice R nr cr, .slice E ne ce]) := Lib.hid (XP5.out.fars (b' := w.heap.size + 1 + 1) (by omega) (by omega) [.int .i64 s.lic.A, .int .i64 s.lic.B, .int .i64 s.lic.C] 3)
 have XR6 : Hid (BX w (((w5.setCell ⟨w.heap.size + 1 + 1, 3, none⟩ (.int .i64 s.lic.A)).setCell ⟨w.heap.size + 1 + 1, 4, none⟩ (.int .i64 s.lic.B)).setCell ⟨w.heap.size + 1 + 1, 5, none⟩ (.int .i64 s.lic.C)) (w.heap.size + 1) 77 [.slice none 0 0, .slice none 0 0, .slice none 0 0, .int .i64 0, .int .i64 0, .int .i64 0, .int .i64 0, .int .i64 0, .slice none 0 0, .slice none 0 0, .slice none 0 0]) := Lib.hid (XR5.out.fars (b' := w.heap.size + 1 + 1) (by omega) (by omega) [.int .i64 s.lic.A, .int .i64 s.lic.B, .int .i64 s.lic.C] 3)
 have OA_6 := Lib.hid (own_sets (b := w.heap.size + 1 + 1) (lo := w.heap.size + 1 + 1 + 1) (by omega) [.int .i64 s.lic.A, .int .i64 s.lic.B, .int .i64 s.lic.C] 3 OA_5.out)
 change Hid (World.ownsRow (((w5.setCell ⟨w.heap.size + 1 + 1, 3, none⟩ (.int .i64 s.lic.A)).setCell ⟨w.heap.size + 1 + 1, 4, none⟩ (.int .i64 s.lic.B)).setCell ⟨w.heap.size + 1 + 1, 5, none⟩ (.int .i64 s.lic.C)) _ _ _ _ _ _) at OA_6
 have OB_6 := Lib.hid (own_sets (b := w.heap.size + 1 + 1) (lo := w.heap.size + 1 + 1 + 1) (by omega) [.int .i64 s.lic.A, .int .i64 s.lic.B, .int .i64 s.lic.C] 3 OB_5.out)
 change Hid (World.ownsRow (((w5.setCell ⟨w.heap.size + 1 + 1, 3, none⟩ (.int .i64 s.lic.A)).setCell ⟨w.heap.size + 1 + 1, 4, none⟩ (.int .i64 s.lic.B)).setCell ⟨w.heap.size + 1 + 1, 5, none⟩ (.int .i64 s.lic.C)) _ _ _ _ _ _) at OB_6
 have OU_6 := Lib.hid (own_sets (b := w.heap.size + 1 + 1) (lo := w.heap.size + 1 + 1 + 1) (by omega) [.int .i64 s.lic.A, .int .i64 s.lic.B, .int .i64 s.lic.C] 3 OU_5.out)
 change Hid (World.ownsRow (((w5.setCell ⟨w.heap.size + 1 + 1, 3, none⟩ (.int .i64 s.lic.A)).setCell ⟨w.heap.size + 1 + 1, 4, none⟩ (.int .i64 s.lic.B)).setCell ⟨w.heap.size + 1 + 1, 5, none⟩ (.int .i64 s.lic.C)) _ _ _ _ _ _) at OU_6
 clear XP5 XR5 XO5 OA_5 OB_5 OU_5
 go_upto_region 5 with fail
 clear o3 o4 o5 of ol
 generalize ((w5.setCell ⟨w.heap.size + 1 + 1, 3, none⟩ (.int .i64 s.lic.A)).setCell ⟨w.heap.size + 1 + 1, 4, none⟩ (.int .i64 s.lic.B)).setCell ⟨w.heap.size + 1 + 1, 5, none⟩ (.int .i64 s.lic.C) = w6 at *
 have k6 := zAb XP6.out.bx 6 rfl
 have kf := zAh XP6.out.bx
 have kl := zAf XP6.out.bx
 simp only [zgc, zga, zgb] at k6
 have o6 := zAb XO6.out.bx 6 rfl
 have of := zAh XO6.out.bx
 have ol := zAf XO6.out.bx
 simp only [zgc, zga, zgb] at o6
 have XO7 : Hid (BX w (w6.setCell ⟨w.heap.size + 1 + 1, 6, none⟩ (.int .i64 s.dep)) (w.heap.size + 1 + 1) 77 [.slice A9 n c9, .slice B9 m d9, .slice U9 nu cu9, .int .i64 s.lic.A, .int .i64 s.lic.B, .int .i64 s.lic.C, .int .i64 s.dep, .int .i64 0, .slice none 0 0, .slice none 0 0, .slice none 0 0]) := Lib.hid (XO6.out.sets [.int .i64 s.dep] 6)
 have XP7 : Hid (BX w (w6.setCell ⟨w.heap.size + 1 + 1, 6, none⟩ (.int .i64 s.dep)) (w.heap.size) 70 [.slice A n c, .slice B m d, .slice U nu cu, .int .i64 s.lic.A, .int .i64 s.lic.B, .int .i64 s.lic.C, .int .i64 s.dep, .int .i64 s.now, .slice K nk ck, .slice R nr cr, .slice E ne ce]) := Lib.hid (XP6.out.fars (b' := w.heap.size + 1 + 1) (by omega) (by omega) [.int .i64 s.dep] 6)
 have XR7 : Hid (BX w (w6.setCell ⟨w.heap.size + 1 + 1, 6, none⟩ (.int .i64 s.dep)) (w.heap.size + 1) 77 [.slice none 0 0, .slice none 0 0, .slice none 0 0, .int .i64 0, .int .i64 0, .int .i64 0, .int .i64 0, .int .i64 0, .slice none 0 0, .slice none 0 0, .slice none 0 0]) := Lib.hid (XR6.out.fars (b' := w.heap.size + 1 + 1) (by omega) (by omega) [.int .i64 s.dep] 6)
 have OA_7 := Lib.hid (own_sets (b := w.heap.size + 1 + 1) (lo := w.heap.size + 1 + 1 + 1) (by omega) [.int .i64 s.dep] 6 OA_6.out)
 change Hid (World.ownsRow (w6.setCell ⟨w.heap.size + 1 + 1, 6, none⟩ (.int .i64 s.dep)) _ _ _ _ _ _) at OA_7
 have OB_7 := Lib.hid (own_sets (b := w.heap.size + 1 + 1) (lo := w.heap.size + 1 + 1 + 1) (by omega) [.int .i64 s.dep] 6 OB_6.out)
 change Hid (World.ownsRow (w6.setCell ⟨w.heap.size + 1 + 1, 6, none⟩ (.int .i64 s.dep)) _ _ _ _ _ _) at OB_7
 have OU_7 := Lib.hid (own_sets (b := w.heap.size + 1 + 1) (lo := w.heap.size + 1 + 1 + 1) (by omega) [.int .i64 s.dep] 6 OU_6.out)
 change Hid (World.ownsRow (w6.setCell ⟨w.heap.size + 1 + 1, 6, none⟩ (.int .i64 s.dep)) _ _ _ _ _ _) at OU_7
 clear XP6 XR6 XO6 OA_6 OB_6 OU_6
 go_upto_region 6 with fail
 clear o6 of ol k6 kf kl
 generalize w6.setCell ⟨w.heap.size + 1 + 1, 6, none⟩ (.int .i64 s.dep) = w7 at *
 have k7 := zAb XP7.out.bx 7 rfl
 have kf := zAh XP7.out.bx
 have kl := zAf XP7.out.bx
 simp only [zgc, zga, zgb] at k7
 have o7 := zAb XO7.out.bx 7 rfl
 have of := zAh XO7.out.bx
 have ol := zAf XO7.out.bx
 simp only [zgc, zga, zgb] at o7
 have XO8 : Hid (BX w (w7.setCell ⟨w.heap.size + 1 + 1, 7, none⟩ (.int .i64 s.now)) (w.heap.size + 1 + 1) 77 [.slice A9 n c9, .slice B9 m d9, .slice U9 nu cu9, .int .i64 s.lic.A, .int .i64 s.lic.B, .int .i64 s.lic.C, .int .i64 s.dep, .int .i64 s.now, .slice none 0 0, .slice none 0 0, .slice none 0 0]) := Lib.hid (XO7.out.sets [.int .i64 s.now] 7)
 have XP8 : Hid (BX w (w7.setCell ⟨w.heap.size + 1 + 1, 7, none⟩ (.int .i64 s.now)) (w.heap.size) 70 [.slice A n c, .slice B m d, .slice U nu cu, .int .i64 s.lic.A, .int .i64 s.lic.B, .int .i64 s.lic.C, .int .i64 s.dep, .int .i64 s.now, .slice K nk ck, .slice R nr cr, .slice E ne ce]) := Lib.hid (XP7.out.fars (b' := w.heap.size + 1 + 1) (by omega) (by omega) [.int .i64 s.now] 7)
 have XR8 : Hid (BX w (w7.setCell ⟨w.heap.size + 1 + 1, 7, none⟩ (.int .i64 s.now)) (w.heap.size + 1) 77 [.slice none 0 0, .slice none 0 0, .slice none 0 0, .int .i64 0, .int .i64 0, .int .i64 0, .int .i64 0, .int .i64 0, .slice none 0 0, .slice none 0 0, .slice none 0 0]) := Lib.hid (XR7.out.fars (b' := w.heap.size + 1 + 1) (by omega) (by omega) [.int .i64 s.now] 7)
 have OA_8 := Lib.hid (own_sets (b := w.heap.size + 1 + 1) (lo := w.heap.size + 1 + 1 + 1) (by omega) [.int .i64 s.now] 7 OA_7.out)
 change Hid (World.ownsRow (w7.setCell ⟨w.heap.size + 1 + 1, 7, none⟩ (.int .i64 s.now)) _ _ _ _ _ _) at OA_8
 have OB_8 := Lib.hid (own_sets (b := w.heap.size + 1 + 1) (lo := w.heap.size + 1 + 1 + 1) (by omega) [.int .i64 s.now] 7 OB_7.out)
 change Hid (World.ownsRow (w7.setCell ⟨w.heap.size + 1 + 1, 7, none⟩ (.int .i64 s.now)) _ _ _ _ _ _) at OB_8
 have OU_8 := Lib.hid (own_sets (b := w.heap.size + 1 + 1) (lo := w.heap.size + 1 + 1 + 1) (by omega) [.int .i64 s.now] 7 OU_7.out)
 change Hid (World.ownsRow (w7.setCell ⟨w.heap.size + 1 + 1, 7, none⟩ (.int .i64 s.now)) _ _ _ _ _ _) at OU_8
 clear XP7 XR7 XO7 OA_7 OB_7 OU_7
 go_upto_region 7 with fail
 clear o7 of ol k7 kf kl
 generalize w7.setCell ⟨w.heap.size + 1 + 1, 7, none⟩ (.int .i64 s.now) = w8 at *
 have k8 := zAb XP8.out.bx 8 rfl
 have kf := zAh XP8.out.bx
 have kl := zAf XP8.out.bx
 simp only [zgc, zga, zgb] at k8
 go_wp2_with fail
 refine (toJobS_any K nk ck s.queue _ HX.out.nk (HR.out.queue.below XP8.out.bel)).mono ?_
 rintro e w9 ⟨u4, rfl, oK, hb9⟩
 have hlo9 := zAf XO8.out.bx
 obtain ⟨K9, ck9, rfl, _⟩ := zAt oK
 have OK_9 := Lib.hid (zAo (lo' := w.heap.size + 1 + 1 + 1) oK (by omega))
 clear oK
 have XP9 := Lib.hid (XP8.out.step hb9)
 have XR9 := Lib.hid (XR8.out.step hb9)
 have XO9 := Lib.hid (XO8.out.step hb9)
 have OA_9 := Lib.hid (zAe OA_8.out hb9)
 have OB_9 := Lib.hid (zAe OB_8.out hb9)
 have OU_9 := Lib.hid (zAe OU_8.out hb9)
 clear hb9 hlo9 k8 kf kl XP8 XR8 XO8
 have o8 := zAb XO9.out.bx 8 rfl
 have of := zAh XO9.out.bx
 have ol := zAf XO9.out.bx
 simp only [zgc, zga, zgb] at o8
 have XO10 : Hid (BX w (w9.setCell ⟨w.heap.size + 1 + 1, 8, none⟩ (.slice K9 nk ck9)) (w.heap.size + 1 + 1) 77 [.slice A9 n c9, .slice B9 m d9, .slice U9 nu cu9, .int .i64 s.lic.A, .int .i64 s.lic.B, .int .i64 s.lic.C, .int .i64 s.dep, .int .i64 s.now, .slice K9 nk ck9, .slice none 0 0, .slice none 0 0]) := Lib.hid (XO9.out.sets [.slice K9 nk ck9] 8)
 have XP10 : Hid (BX w (w9.setCell ⟨w.heap.size + 1 + 1, 8, none⟩ (.slice K9 nk ck9)) (w.heap.size) 70 [.slice A n c, .slice B m d, .slice U nu cu, .int .i64 s.lic.A, .int .i64 s.lic.B, .int .i64 s.lic.C, .int .i64 s.dep, .int .i64 s.now, .slice K nk ck, .slice R nr cr, .slice E ne ce]) := Lib.hid (XP9.out.fars (b' := w.heap.size + 1 + 1) (by omega) (by omega) [.slice K9 nk ck9] 8)
 have XR10 : Hid (BX w (w9.setCell ⟨w.heap.size + 1 + 1, 8, none⟩ (.slice K9 nk ck9)) (w.heap.size + 1) 77 [.slice none 0 0, .slice none 0 0, .slice none 0 0, .int .i64 0, .int .i64 0, .int .i64 0, .int .i64 0, .int .i64 0, .slice none 0 0, .slice none 0 0, .slice none 0 0]) := Lib.hid (XR9.out.fars (b' := w.heap.size + 1 + 1) (by omega) (by omega) [.slice K9 nk ck9] 8)
 have OA_10 := Lib.hid (own_sets (b := w.heap.size + 1 + 1) (lo := w.heap.size + 1 + 1 + 1) (by omega) [.slice K9 nk ck9] 8 OA_9.out)
 change Hid (World.ownsRow (w9.setCell ⟨w.heap.size + 1 + 1, 8, none⟩ (.slice K9 nk ck9)) _ _ _ _ _ _) at OA_10
 have OB_10 := Lib.hid (own_sets (b := w.heap.size + 1 + 1) (lo := w.heap.size + 1 + 1 + 1) (by omega) [.slice K9 nk ck9] 8 OB_9.out)
 change Hid (World.ownsRow (w9.setCell ⟨w.heap.size + 1 + 1, 8, none⟩ (.slice K9 nk ck9)) _ _ _ _ _ _) at OB_10
 have OU_10 := Lib.hid (own_sets (b := w.heap.size + 1 + 1) (lo := w.heap.size + 1 + 1 + 1) (by omega) [.slice K9 nk ck9] 8 OU_9.out)
 change Hid (World.ownsRow (w9.setCell ⟨w.heap.size + 1 + 1, 8, none⟩ (.slice K9 nk ck9)) _ _ _ _ _ _) at OU_10
 have OK_10 := Lib.hid (own_sets (b := w.heap.size + 1 + 1) (lo := w.heap.size + 1 + 1 + 1) (by omega) [.slice K9 nk ck9] 8 OK_9.out)
 change Hid (World.ownsRow (w9.setCell ⟨w.heap.size + 1 + 1, 8, none⟩ (.slice K9 nk ck9)) _ _ _ _ _ _) at OK_10
 clear XP9 XR9 XO9 OA_9 OB_9 OU_9 OK_9
 go_upto_region 8 with fail
 clear o8 of ol
 generalize w9.setCell ⟨w.heap.size + 1 + 1, 8, none⟩ (.slice K9 nk ck9) = w10 at *
 have k9 := zAb XP10.out.bx 9 rfl
 have kf := zAh XP10.out.bx
 have kl := zAf XP10.out.bx
 simp only [zgc, zga, zgb] at k9
 go_wp2_with fail
 refine (toRunS_any R nr cr s.runs _ HX.out.nr HX.out.nds (HR.out.runs.below XP10.out.bel)).mono ?_
 rintro e w11 ⟨u5, ss, rfl, oR, hb11⟩
 have hlo11 := zAf XO10.out.bx
 obtain ⟨R9, cr9, rfl, _⟩ := zAt oR.own
 have HAP : Hid (∀ (i : Nat) x, ss[i]? = some x → ∀ b, x.ownBlock = some b → ¬ atB A9 b) := Lib.hid (fun i x hx b hxb hL => by
  obtain ⟨p, hp⟩ : ∃ p, s.runs[i]? = some p := ⟨_, zgh (by have e1 := (List.getElem?_eq_some_iff.1 hx).1; have e2 := oR.len; have e3 := oR.slen; omega)⟩
  have e1 := own_ge (oR.each i x p hx hp).2 b hxb
  have e2 := (own_rng OA_10.out b hL).2
  omega)
 have OR_11 := Lib.hid (oR.mono (lo' := w.heap.size + 1 + 1 + 1) (by omega))
 clear oR
 have XP11 := Lib.hid (XP10.out.step hb11)
 have XR11 := Lib.hid (XR10.out.step hb11)
 have XO11 := Lib.hid (XO10.out.step hb11)
 have OA_11 := Lib.hid (zAe OA_10.out hb11)
 have OB_11 := Lib.hid (zAe OB_10.out hb11)
 have OU_11 := Lib.hid (zAe OU_10.out hb11)
 have OK_11 := Lib.hid (zAe OK_10.out hb11)
 clear hb11 hlo11 k9 kf kl XP10 XR10 XO10
 have o9 := zAb XO11.out.bx 9 rfl
 have of := zAh XO11.out.bx
 have ol := zAf XO11.out.bx
 simp only [zgc, zga, zgb] at o9
 have XO12 : Hid (BX w (w11.setCell ⟨w.heap.size + 1 + 1, 9, none⟩ (.slice R9 nr cr9)) (w.heap.size + 1 + 1) 77 [.slice A9 n c9, .slice B9 m d9, .slice U9 nu cu9, .int .i64 s.lic.A, .int .i64 s.lic.B, .int .i64 s.lic.C, .int .i64 s.dep, .int .i64 s.now, .slice K9 nk ck9, .slice R9 nr cr9, .slice none 0 0]) := Lib.hid (XO11.out.sets [.slice R9 nr cr9] 9)
 have XP12 : Hid (BX w (w11.setCell ⟨w.heap.size + 1 + 1, 9, none⟩ (.slice R9 nr cr9)) (w.heap.size) 70 [.slice A n c, .slice B m d, .slice U nu cu, .int .i64 s.lic.A, .int .i64 s.lic.B, .int .i64 s.lic.C, .int .i64 s.dep, .int .i64 s.now, .slice K nk ck, .slice R nr cr, .slice E ne ce]) := Lib.hid (XP11.out.fars (b' := w.heap.size + 1 + 1) (by omega) (by omega) [.slice R9 nr cr9] 9)
 have XR12 : Hid (BX w (w11.setCell ⟨w.heap.size + 1 + 1, 9, none⟩ (.slice R9 nr cr9)) (w.heap.size + 1) 77 [.slice none 0 0, .slice none 0 0, .slice none 0 0, .int .i64 0, .int .i64 0, .int .i64 0, .int .i64 0, .int .i64 0, .slice none 0 0, .slice none 0 0, .slice none 0 0]) := Lib.hid (XR11.out.fars (b' := w.heap.size + 1 + 1) (by omega) (by omega) [.slice R9 nr cr9] 9)
 have OA_12 := Lib.hid (own_sets (b := w.heap.size + 1 + 1) (lo := w.heap.size + 1 + 1 + 1) (by omega) [.slice R9 nr cr9] 9 OA_11.out)
 change Hid (World.ownsRow (w11.setCell ⟨w.heap.size + 1 + 1, 9, none⟩ (.slice R9 nr cr9)) _ _ _ _ _ _) at OA_12
 have OB_12 := Lib.hid (own_sets (b := w.heap.size + 1 + 1) (lo := w.heap.size + 1 + 1 + 1) (by omega) [.slice R9 nr cr9] 9 OB_11.out)
 change Hid (World.ownsRow (w11.setCell ⟨w.heap.size + 1 + 1, 9, none⟩ (.slice R9 nr cr9)) _ _ _ _ _ _) at OB_12
 have OU_12 := Lib.hid (own_sets (b := w.heap.size + 1 + 1) (lo := w.heap.size + 1 + 1 + 1) (by omega) [.slice R9 nr cr9] 9 OU_11.out)
 change Hid (World.ownsRow (w11.setCell ⟨w.heap.size + 1 + 1, 9, none⟩ (.slice R9 nr cr9)) _ _ _ _ _ _) at OU_12
 have OK_12 := Lib.hid (own_sets (b := w.heap.size + 1 + 1) (lo := w.heap.size + 1 + 1 + 1) (by omega) [.slice R9 nr cr9] 9 OK_11.out)
 change Hid (World.ownsRow (w11.setCell ⟨w.heap.size + 1 + 1, 9, none⟩ (.slice R9 nr cr9)) _ _ _ _ _ _) at OK_12
 have OR_12 := Lib.hid (OwnN.sets (b := w.heap.size + 1 + 1) (lo := w.heap.size + 1 + 1 + 1) (by omega) [.slice R9 nr cr9] 9 OR_11.out)
 change Hid (OwnN (w11.setCell ⟨w.heap.size + 1 + 1, 9, none⟩ (.slice R9 nr cr9)) _ _ _ _ _) at OR_12
 clear XP11 XR11 XO11 OA_11 OB_11 OU_11 OK_11 OR_11
 go_upto_region 9 with fail
 clear o9 of ol
 generalize w11.setCell ⟨w.heap.size + 1 + 1, 9, none⟩ (.slice R9 nr cr9) = w12 at *
 have k10 := zAb XP12.out.bx 10 rfl
 have kf := zAh XP12.out.bx
 have kl := zAf XP12.out.bx
 simp only [zgc, zga, zgb] at k10
 go_wp2_with fail
 refine (toEndS_any E ne ce s.ends _ HX.out.ne (HR.out.ends.below XP12.out.bel)).mono ?_
 rintro e w13 ⟨u6, rfl, oE, hb13⟩
 have hlo13 := zAf XO12.out.bx
 obtain ⟨E9, ce9, rfl, _⟩ := zAt oE
 have OE_13 := Lib.hid (zAo (lo' := w.heap.size + 1 + 1 + 1) oE (by omega))
 clear oE
 have XP13 := Lib.hid (XP12.out.step hb13)
 have XR13 := Lib.hid (XR12.out.step hb13)
 have XO13 := Lib.hid (XO12.out.step hb13)
 have OA_13 := Lib.hid (zAe OA_12.out hb13)
 have OB_13 := Lib.hid (zAe OB_12.out hb13)
 have OU_13 := Lib.hid (zAe OU_12.out hb13)
 have OK_13 := Lib.hid (zAe OK_12.out hb13)
 have OR_13 := Lib.hid (OR_12.out.bel hb13)
 clear hb13 hlo13 k10 kf kl XP12 XR12 XO12
 have o10 := zAb XO13.out.bx 10 rfl
 have of := zAh XO13.out.bx
 have ol := zAf XO13.out.bx
 simp only [zgc, zga, zgb] at o10
 have XO14 : Hid (BX w (w13.setCell ⟨w.heap.size + 1 + 1, 10, none⟩ (.slice E9 ne ce9)) (w.heap.size + 1 + 1) 77 [.slice A9 n c9, .slice B9 m d9, .slice U9 nu cu9, .int .i64 s.lic.A, .int .i64 s.lic.B, .int .i64 s.lic.C, .int .i64 s.dep, .int .i64 s.now, .slice K9 nk ck9, .slice R9 nr cr9, .slice E9 ne ce9]) := Lib.hid (XO13.out.sets [.slice E9 ne ce9] 10)
 have XP14 : Hid (BX w (w13.setCell ⟨w.heap.size + 1 + 1, 10, none⟩ (.slice E9 ne ce9)) (w.heap.size) 70 [.slice A n c, .slice B m d, .slice U nu cu, .int .i64 s.lic.A, .int .i64 s.lic.B, .int .i64 s.lic.C, .int .i64 s.dep, .int .i64 s.now, .slice K nk ck, .slice R nr cr, .slice E ne ce]) := Lib.hid (XP13.out.fars (b' := w.heap.size + 1 + 1) (by omega) (by omega) [.slice E9 ne ce9] 10)
 have XR14 : Hid (BX w (w13.setCell ⟨w.heap.size + 1 + 1, 10, none⟩ (.slice E9 ne ce9)) (w.heap.size + 1) 77 [.slice none 0 0, .slice none 0 0, .slice none 0 0, .int .i64 0, .int .i64 0, .int .i64 0, .int .i64 0, .int .i64 0, .slice none 0 0, .slice none 0 0, .slice none 0 0]) := Lib.hid (XR13.out.fars (b' := w.heap.size + 1 + 1) (by omega) (by omega) [.slice E9 ne ce9] 10)
 have OA_14 := Lib.hid (own_sets (b := w.heap.size + 1 + 1) (lo := w.heap.size + 1 + 1 + 1) (by omega) [.slice E9 ne ce9] 10 OA_13.out)
 change Hid (World.ownsRow (w13.setCell ⟨w.heap.size + 1 + 1, 10, none⟩ (.slice E9 ne ce9)) _ _ _ _ _ _) at OA_14
 have OB_14 := Lib.hid (own_sets (b := w.heap.size + 1 + 1) (lo := w.heap.size + 1 + 1 + 1) (by omega) [.slice E9 ne ce9] 10 OB_13.out)
 change Hid (World.ownsRow (w13.setCell ⟨w.heap.size + 1 + 1, 10, none⟩ (.slice E9 ne ce9)) _ _ _ _ _ _) at OB_14
 have OU_14 := Lib.hid (own_sets (b := w.heap.size + 1 + 1) (lo := w.heap.size + 1 + 1 + 1) (by omega) [.slice E9 ne ce9] 10 OU_13.out)
 change Hid (World.ownsRow (w13.setCell ⟨w.heap.size + 1 + 1, 10, none⟩ (.slice E9 ne ce9)) _ _ _ _ _ _) at OU_14
 have OK_14 := Lib.hid (own_sets (b := w.heap.size + 1 + 1) (lo := w.heap.size + 1 + 1 + 1) (by omega) [.slice E9 ne ce9] 10 OK_13.out)
 change Hid (World.ownsRow (w13.setCell ⟨w.heap.size + 1 + 1, 10, none⟩ (.slice E9 ne ce9)) _ _ _ _ _ _) at OK_14
 have OR_14 := Lib.hid (OwnN.sets (b := w.heap.size + 1 + 1) (lo := w.heap.size + 1 + 1 + 1) (by omega) [.slice E9 ne ce9] 10 OR_13.out)
 change Hid (OwnN (w13.setCell ⟨w.heap.size + 1 + 1, 10, none⟩ (.slice E9 ne ce9)) _ _ _ _ _) at OR_14
 have OE_14 := Lib.hid (own_sets (b := w.heap.size + 1 + 1) (lo := w.heap.size + 1 + 1 + 1) (by omega) [.slice E9 ne ce9] 10 OE_13.out)
 change Hid (World.ownsRow (w13.setCell ⟨w.heap.size + 1 + 1, 10, none⟩ (.slice E9 ne ce9)) _ _ _ _ _ _) at OE_14
 clear XP13 XR13 XO13 OA_13 OB_13 OU_13 OK_13 OR_13 OE_13
 go_upto_region 10 with fail
 clear o10 of ol
 generalize w13.setCell ⟨w.heap.size + 1 + 1, 10, none⟩ (.slice E9 ne ce9) = w14 at *
 have o0 := zAb XO14.out.bx 0 rfl
 have o1 := zAb XO14.out.bx 1 rfl
 have o2 := zAb XO14.out.bx 2 rfl
 have o3 := zAb XO14.out.bx 3 rfl
 have o4 := zAb XO14.out.bx 4 rfl
 have o5 := zAb XO14.out.bx 5 rfl
 have o6 := zAb XO14.out.bx 6 rfl
 have o7 := zAb XO14.out.bx 7 rfl
 have o8 := zAb XO14.out.bx 8 rfl
 have o9 := zAb XO14.out.bx 9 rfl
 have o10 := zAb XO14.out.bx 10 rfl
 have of := zAh XO14.out.bx
 have ol := zAf XO14.out.bx
 simp only [zgc, zga, zgb] at o0 o1 o2 o3 o4 o5 o6 o7 o8 o9 o10
 have r0 := zAb XR14.out.bx 0 rfl
 have r1 := zAb XR14.out.bx 1 rfl
 have r2 := zAb XR14.out.bx 2 rfl
 have r3 := zAb XR14.out.bx 3 rfl
 have r4 := zAb XR14.out.bx 4 rfl
 have r5 := zAb XR14.out.bx 5 rfl
 have r6 := zAb XR14.out.bx 6 rfl
 have r7 := zAb XR14.out.bx 7 rfl
 have r8 := zAb XR14.out.bx 8 rfl
 have r9 := zAb XR14.out.bx 9 rfl
 have r10 := zAb XR14.out.bx 10 rfl
 have rf := zAh XR14.out.bx
 have rl := zAf XR14.out.bx
 simp only [zgc, zga, zgb] at r0 r1 r2 r3 r4 r5 r6 r7 r8 r9 r10
 have XW : Hid (BX w (((((((((((w14.setCell ⟨w.heap.size + 1, 0, none⟩ (.slice A9 n c9)).setCell ⟨w.heap.size + 1, 1, none⟩ (.slice B9 m d9)).setCell ⟨w.heap.size + 1, 2, none⟩ (.slice U9 nu cu9)).setCell ⟨w.heap.size + 1, 3, none⟩ (.int .i64 s.lic.A)).setCell ⟨w.heap.size + 1, 4, none⟩ (.int .i64 s.lic.B)).setCell ⟨w.heap.size + 1, 5, none⟩ (.int .i64 s.lic.C)).setCell ⟨w.heap.size + 1, 6, none⟩ (.int .i64 s.dep)).setCell ⟨w.heap.size + 1, 7, none⟩ (.int .i64 s.now)).setCell ⟨w.heap.size + 1, 8, none⟩ (.slice K9 nk ck9)).setCell ⟨w.heap.size + 1, 9, none⟩ (.slice R9 nr cr9)).setCell ⟨w.heap.size + 1, 10, none⟩ (.slice E9 ne ce9)) (w.heap.size + 1) 77 [.slice A9 n c9, .slice B9 m d9, .slice U9 nu cu9, .int .i64 s.lic.A, .int .i64 s.lic.B, .int .i64 s.lic.C, .int .i64 s.dep, .int .i64 s.now, .slice K9 nk ck9, .slice R9 nr cr9, .slice E9 ne ce9]) := Lib.hid (XR14.out.sets [.slice A9 n c9, .slice B9 m d9, .slice U9 nu cu9, .int .i64 s.lic.A, .int .i64 s.lic.B, .int .i64 s.lic.C, .int .i64 s.dep, .int .i64 s.now, .slice K9 nk ck9, .slice R9 nr cr9, .slice E9 ne ce9] 0)
 have OA_W := Lib.hid (own_sets (b := w.heap.size + 1) (lo := w.heap.size + 1 + 1 + 1) (by omega) [.slice A9 n c9, .slice B9 m d9, .slice U9 nu cu9, .int .i64 s.lic.A, .int .i64 s.lic.B, .int .i64 s.lic.C, .int .i64 s.dep, .int .i64 s.now, .slice K9 nk ck9, .slice R9 nr cr9, .slice E9 ne ce9] 0 OA_14.out)
 change Hid (World.ownsRow (((((((((((w14.setCell ⟨w.heap.size + 1, 0, none⟩ (.slice A9 n c9)).setCell ⟨w.heap.size + 1, 1, none⟩ (.slice B9 m d9)).setCell ⟨w.heap.size + 1, 2, none⟩ (.slice U9 nu cu9)).setCell ⟨w.heap.size + 1, 3, none⟩ (.int .i64 s.lic.A)).setCell ⟨w.heap.size + 1, 4, none⟩ (.int .i64 s.lic.B)).setCell ⟨w.heap.size + 1, 5, none⟩ (.int .i64 s.lic.C)).setCell ⟨w.heap.size + 1, 6, none⟩ (.int .i64 s.dep)).setCell ⟨w.heap.size + 1, 7, none⟩ (.int .i64 s.now)).setCell ⟨w.heap.size + 1, 8, none⟩ (.slice K9 nk ck9)).setCell ⟨w.heap.size + 1, 9, none⟩ (.slice R9 nr cr9)).setCell ⟨w.heap.size + 1, 10, none⟩ (.slice E9 ne ce9)) _ _ _ _ _ _) at OA_W
 have OB_W := Lib.hid (own_sets (b := w.heap.size + 1) (lo := w.heap.size + 1 + 1 + 1) (by omega) [.slice A9 n c9, .slice B9 m d9, .slice U9 nu cu9, .int .i64 s.lic.A, .int .i64 s.lic.B, .int .i64 s.lic.C, .int .i64 s.dep, .int .i64 s.now, .slice K9 nk ck9, .slice R9 nr cr9, .slice E9 ne ce9] 0 OB_14.out)
 change Hid (World.ownsRow (((((((((((w14.setCell ⟨w.heap.size + 1, 0, none⟩ (.slice A9 n c9)).setCell ⟨w.heap.size + 1, 1, none⟩ (.slice B9 m d9)).setCell ⟨w.heap.size + 1, 2, none⟩ (.slice U9 nu cu9)).setCell ⟨w.heap.size + 1, 3, none⟩ (.int .i64 s.lic.A)).setCell ⟨w.heap.size + 1, 4, none⟩ (.int .i64 s.lic.B)).setCell ⟨w.heap.size + 1, 5, none⟩ (.int .i64 s.lic.C)).setCell ⟨w.heap.size + 1, 6, none⟩ (.int .i64 s.dep)).setCell ⟨w.heap.size + 1, 7, none⟩ (.int .i64 s.now)).setCell ⟨w.heap.size + 1, 8, none⟩ (.slice K9 nk ck9)).setCell ⟨w.heap.size + 1, 9, none⟩ (.slice R9 nr cr9)).setCell ⟨w.heap.size + 1, 10, none⟩ (.slice E9 ne ce9)) _ _ _ _ _ _) at OB_W
 have OU_W := Lib.hid (own_sets (b := w.heap.size + 1) (lo := w.heap.size + 1 + 1 + 1) (by omega) [.slice A9 n c9, .slice B9 m d9, .slice U9 nu cu9, .int .i64 s.lic.A, .int .i64 s.lic.B, .int .i64 s.lic.C, .int .i64 s.dep, .int .i64 s.now, .slice K9 nk ck9, .slice R9 nr cr9, .slice E9 ne ce9] 0 OU_14.out)
 change Hid (World.ownsRow (((((((((((w14.setCell ⟨w.heap.size + 1, 0, none⟩ (.slice A9 n c9)).setCell ⟨w.heap.size + 1, 1, none⟩ (.slice B9 m d9)).setCell ⟨w.heap.size + 1, 2, none⟩ (.slice U9 nu cu9)).setCell ⟨w.heap.size + 1, 3, none⟩ (.int .i64 s.lic.A)).setCell ⟨w.heap.size + 1, 4, none⟩ (.int .i64 s.lic.B)).setCell ⟨w.heap.size + 1, 5, none⟩ (.int .i64 s.lic.C)).setCell ⟨w.heap.size + 1, 6, none⟩ (.int .i64 s.dep)).setCell ⟨w.heap.size + 1, 7, none⟩ (.int .i64 s.now)).setCell ⟨w.heap.size + 1, 8, none⟩ (.slice K9 nk ck9)).setCell ⟨w.heap.size + 1, 9, none⟩ (.slice R9 nr cr9)).setCell ⟨w.heap.size + 1, 10, none⟩ (.slice E9 ne ce9)) _ _ _ _ _ _) at OU_W
 have OK_W := Lib.hid (own_sets (b := w.heap.size + 1) (lo := w.heap.size + 1 + 1 + 1) (by omega) [.slice A9 n c9, .slice B9 m d9, .slice U9 nu cu9, .int .i64 s.lic.A, .int .i64 s.lic.B, .int .i64 s.lic.C, .int .i64 s.dep, .int .i64 s.now, .slice K9 nk ck9, .slice R9 nr cr9, .slice E9 ne ce9] 0 OK_14.out)
 change Hid (World.ownsRow (((((((((((w14.setCell ⟨w.heap.size + 1, 0, none⟩ (.slice A9 n c9)).setCell ⟨w.heap.size + 1, 1, none⟩ (.slice B9 m d9)).setCell ⟨w.heap.size + 1, 2, none⟩ (.slice U9 nu cu9)).setCell ⟨w.heap.size + 1, 3, none⟩ (.int .i64 s.lic.A)).setCell ⟨w.heap.size + 1, 4, none⟩ (.int .i64 s.lic.B)).setCell ⟨w.heap.size + 1, 5, none⟩ (.int .i64 s.lic.C)).setCell ⟨w.heap.size + 1, 6, none⟩ (.int .i64 s.dep)).setCell ⟨w.heap.size + 1, 7, none⟩ (.int .i64 s.now)).setCell ⟨w.heap.size + 1, 8, none⟩ (.slice K9 nk ck9)).setCell ⟨w.heap.size + 1, 9, none⟩ (.slice R9 nr cr9)).setCell ⟨w.heap.size + 1, 10, none⟩ (.slice E9 ne ce9)) _ _ _ _ _ _) at OK_W
 have OR_W := Lib.hid (OwnN.sets (b := w.heap.size + 1) (lo := w.heap.size + 1 + 1 + 1) (by omega) [.slice A9 n c9, .slice B9 m d9, .slice U9 nu cu9, .int .i64 s.lic.A, .int .i64 s.lic.B, .int .i64 s.lic.C, .int .i64 s.dep, .int .i64 s.now, .slice K9 nk ck9, .slice R9 nr cr9, .slice E9 ne ce9] 0 OR_14.out)
 change Hid (OwnN (((((((((((w14.setCell ⟨w.heap.size + 1, 0, none⟩ (.slice A9 n c9)).setCell ⟨w.heap.size + 1, 1, none⟩ (.slice B9 m d9)).setCell ⟨w.heap.size + 1, 2, none⟩ (.slice U9 nu cu9)).setCell ⟨w.heap.size + 1, 3, none⟩ (.int .i64 s.lic.A)).setCell ⟨w.heap.size + 1, 4, none⟩ (.int .i64 s.lic.B)).setCell ⟨w.heap.size + 1, 5, none⟩ (.int .i64 s.lic.C)).setCell ⟨w.heap.size + 1, 6, none⟩ (.int .i64 s.dep)).setCell ⟨w.heap.size + 1, 7, none⟩ (.int .i64 s.now)).setCell ⟨w.heap.size + 1, 8, none⟩ (.slice K9 nk ck9)).setCell ⟨w.heap.size + 1, 9, none⟩ (.slice R9 nr cr9)).setCell ⟨w.heap.size + 1, 10, none⟩ (.slice E9 ne ce9)) _ _ _ _ _) at OR_W
 have OE_W := Lib.hid (own_sets (b := w.heap.size + 1) (lo := w.heap.size + 1 + 1 + 1) (by omega) [.slice A9 n c9, .slice B9 m d9, .slice U9 nu cu9, .int .i64 s.lic.A, .int .i64 s.lic.B, .int .i64 s.lic.C, .int .i64 s.dep, .int .i64 s.now, .slice K9 nk ck9, .slice R9 nr cr9, .slice E9 ne ce9] 0 OE_14.out)
 change Hid (World.ownsRow (((((((((((w14.setCell ⟨w.heap.size + 1, 0, none⟩ (.slice A9 n c9)).setCell ⟨w.heap.size + 1, 1, none⟩ (.slice B9 m d9)).setCell ⟨w.heap.size + 1, 2, none⟩ (.slice U9 nu cu9)).setCell ⟨w.heap.size + 1, 3, none⟩ (.int .i64 s.lic.A)).setCell ⟨w.heap.size + 1, 4, none⟩ (.int .i64 s.lic.B)).setCell ⟨w.heap.size + 1, 5, none⟩ (.int .i64 s.lic.C)).setCell ⟨w.heap.size + 1, 6, none⟩ (.int .i64 s.dep)).setCell ⟨w.heap.size + 1, 7, none⟩ (.int .i64 s.now)).setCell ⟨w.heap.size + 1, 8, none⟩ (.slice K9 nk ck9)).setCell ⟨w.heap.size + 1, 9, none⟩ (.slice R9 nr cr9)).setCell ⟨w.heap.size + 1, 10, none⟩ (.slice E9 ne ce9)) _ _ _ _ _ _) at OE_W
 clear OA_14 OB_14 OU_14 OK_14 OR_14 OE_14
 go_wp2
 generalize ((((((((((w14.setCell ⟨w.heap.size + 1, 0, none⟩ (.slice A9 n c9)).setCell ⟨w.heap.size + 1, 1, none⟩ (.slice B9 m d9)).setCell ⟨w.heap.size + 1, 2, none⟩ (.slice U9 nu cu9)).setCell ⟨w.heap.size + 1, 3, none⟩ (.int .i64 s.lic.A)).setCell ⟨w.heap.size + 1, 4, none⟩ (.int .i64 s.lic.B)).setCell ⟨w.heap.size + 1, 5, none⟩ (.int .i64 s.lic.C)).setCell ⟨w.heap.size + 1, 6, none⟩ (.int .i64 s.dep)).setCell ⟨w.heap.size + 1, 7, none⟩ (.int .i64 s.now)).setCell ⟨w.heap.size + 1, 8, none⟩ (.slice K9 nk ck9)).setCell ⟨w.heap.size + 1, 9, none⟩ (.slice R9 nr cr9)).setCell ⟨w.heap.size + 1, 10, none⟩ (.slice E9 ne ce9) = W at *
 have f0 := zAb XW.out.bx 0 rfl
 have f1 := zAb XW.out.bx 1 rfl
 have f2 := zAb XW.out.bx 2 rfl
 have f3 := zAb XW.out.bx 3 rfl
 have f4 := zAb XW.out.bx 4 rfl
 have f5 := zAb XW.out.bx 5 rfl
 have f6 := zAb XW.out.bx 6 rfl
 have f7 := zAb XW.out.bx 7 rfl
 have f8 := zAb XW.out.bx 8 rfl
 have f9 := zAb XW.out.bx 9 rfl
 have f10 := zAb XW.out.bx 10 rfl
 have ff := zAh XW.out.bx
 have fl := zAf XW.out.bx
 simp only [zgc, zga, zgb] at f0 f1 f2 f3 f4 f5 f6 f7 f8 f9 f10
 refine bodyPost_ret (v := .agg #[.slice A9 n c9, .slice B9 m d9, .slice U9 nu cu9, .int .i64 s.lic.A, .int .i64 s.lic.B, .int .i64 s.lic.C, .int .i64 s.dep, .int .i64 s.now, .slice K9 nk ck9, .slice R9 nr cr9, .slice E9 ne ce9]) (by simp [results, Tryz.results27, go_sem, f0, f1, f2, f3, f4, f5, f6, f7, f8, f9, f10]) rfl ⟨⟨A9, B9, U9, K9, R9, E9, n, m, nu, nk, nr, ne, c9, d9, cu9, ck9, cr9, ce9⟩, ss, rfl, ⟨rfl, rfl, rfl, rfl, rfl, rfl⟩, ⟨HX.out.n, HX.out.m, HX.out.nu, HX.out.nk, HX.out.nr, HX.out.ne, HX.out.kr, zAo OA_W.out (by omega), zAo OB_W.out (by omega), zAo OU_W.out (by omega), zAo OK_W.out (by omega), OR_W.out.mono (by omega), zAo OE_W.out (by omega), HAP.out⟩, XW.out.bel⟩
set_option maxHeartbeats 4000000 in
theorem szState_any (a : SA) (s : St) (w : World) (hx : StMax a) (hr : StIn w a s) :
  Calls Tryz.prog 25 #[a.v s, .int .i64 1048576] w fun e w' => ∃ z : Int, e = .returned (.int .i64 z) ∧ (z < 0 ∨ 0 ≤ z ∧ StSz a s) ∧ Below w.heap.size w w' := by
 obtain ⟨A, B, U, K, R, E, n, m, nu, nk, nr, ne, c, d, cu, ck, cr, ce⟩ := a
 dsimp only [SA.v]
 have HX := Lib.hid hx
 have HR := Lib.hid hr
 clear hx hr
 have XP0 : Hid (BX w (w.alloc (.cells #[.slice A n c, .slice B m d, .slice U nu cu, .int .i64 s.lic.A, .int .i64 s.lic.B, .int .i64 s.lic.C, .int .i64 s.dep, .int .i64 s.now, .slice K nk ck, .slice R nr cr, .slice E ne ce] 70)) (w.heap.size) 70 [.slice A n c, .slice B m d, .slice U nu cu, .int .i64 s.lic.A, .int .i64 s.lic.B, .int .i64 s.lic.C, .int .i64 s.dep, .int .i64 s.now, .slice K nk ck, .slice R nr cr, .slice E ne ce]) := Lib.hid ⟨zAp _ rfl, zAa _ _, Nat.le_refl _⟩
 go_enter Tryz.func25, Tryz.ntmps25
 go_upto_region 1 with fail
 generalize w.alloc (.cells #[.slice A n c, .slice B m d, .slice U nu cu, .int .i64 s.lic.A, .int .i64 s.lic.B, .int .i64 s.lic.C, .int .i64 s.dep, .int .i64 s.now, .slice K nk ck, .slice R nr cr, .slice E ne ce] 70) = w0 at *
 have k0 := zAb XP0.out.bx 0 rfl
 have k1 := zAb XP0.out.bx 1 rfl
 have kf := zAh XP0.out.bx
 have kl := zAf XP0.out.bx
 simp only [zgc, zga, zgb] at k0 k1
 go_wp2_with fail
 refine (szTopo_any A B n c m d _ HX.out.n HX.out.m).mono ?_
 rintro e w1 ⟨rfl, hb1⟩
 have XP1 := Lib.hid (XP0.out.step hb1)
 clear hb1 k0 k1 kf kl
 obtain ⟨z1, hz1⟩ : ∃ z, z = szT n m := ⟨_, rfl⟩
 rw [← hz1]
 by_cases h1 : z1 < 0
 ·go_wp2
  go_ret
  exact ⟨_, rfl, Or.inl (by omega), XP1.out.bel⟩
 obtain ⟨g1, g2, g3⟩ := szT_pos (n := n) (m := m) (by omega)
 rw [← hz1] at g3
 clear hz1
 have k2 := zAb XP1.out.bx 2 rfl
 have kf := zAh XP1.out.bx
 have kl := zAf XP1.out.bx
 simp only [zgc, zga, zgb] at k2
 go_wp2_with fail
 refine (szBoolS_any U nu cu z1 _ (by omega) (by omega) HX.out.nu).mono ?_
 rintro e w2 ⟨rfl, rfl⟩
 obtain ⟨z2, hz2⟩ : ∃ z, z = szOf z1 nu := ⟨_, rfl⟩
 rw [← hz2]
 by_cases h2 : z2 < 0
 ·go_wp2
  go_ret
  exact ⟨_, rfl, Or.inl (by omega), XP1.out.bel⟩
 obtain ⟨g4, g5⟩ := szOf_pos (left := z1) (n := nu) (by omega)
 rw [← hz2] at g5
 have G2 : z2 ≤ z1 ∧ nu ≤ 1048576 := by omega
 clear hz2 g5 k2 kf kl
 have k8 := zAb XP1.out.bx 8 rfl
 have kf := zAh XP1.out.bx
 have kl := zAf XP1.out.bx
 simp only [zgc, zga, zgb] at k8
 go_wp2_with fail
 refine (szJobS_any K nk ck z2 _ (by omega) (by omega) HX.out.nk).mono ?_
 rintro e w3 ⟨rfl, rfl⟩
 obtain ⟨z3, hz3⟩ : ∃ z, z = szOf z2 nk := ⟨_, rfl⟩
 rw [← hz3]
 by_cases h3 : z3 < 0
 ·go_wp2
  go_ret
  exact ⟨_, rfl, Or.inl (by omega), XP1.out.bel⟩
 obtain ⟨g6, g7⟩ := szOf_pos (left := z2) (n := nk) (by omega)
 rw [← hz3] at g7
 have G3 : z3 + nk = z2 ∧ nk ≤ 1048576 := by omega
 clear hz3 g7 k8 kf kl
 have k9 := zAb XP1.out.bx 9 rfl
 have kf := zAh XP1.out.bx
 have kl := zAf XP1.out.bx
 simp only [zgc, zga, zgb] at k9
 go_wp2_with fail
 refine (szRunS_any R nr cr z3 s.runs _ (by omega) (by omega) HX.out.nr (HR.out.runs.below XP1.out.bel)).mono ?_
 rintro e w4 ⟨z4, rfl, ha4, hc4, hd4, hb4⟩
 have XP4 := Lib.hid (XP1.out.step hb4)
 clear hb4 k9 kf kl
 by_cases h4 : z4 < 0
 ·go_wp2
  go_ret
  exact ⟨_, rfl, Or.inl (by omega), XP4.out.bel⟩
 obtain ⟨g8, g9⟩ := hd4 (by omega)
 have G9 := Lib.hid g9
 clear hd4 g9
 have k10 := zAb XP4.out.bx 10 rfl
 have kf := zAh XP4.out.bx
 have kl := zAf XP4.out.bx
 simp only [zgc, zga, zgb] at k10
 go_wp2_with fail
 refine (szEndS_any E ne ce z4 _ (by omega) (by omega) HX.out.ne).mono ?_
 rintro e w5 ⟨rfl, rfl⟩
 obtain ⟨z5, hz5⟩ : ∃ z, z = szOf z4 ne := ⟨_, rfl⟩
 rw [← hz5]
 by_cases h5 : z5 < 0
 ·go_wp2
  go_ret
  exact ⟨_, rfl, Or.inl (by omega), XP4.out.bel⟩
 obtain ⟨g10, g11⟩ := szOf_pos (left := z4) (n := ne) (by omega)
 have hne : ne ≤ 1048576 := by omega
 clear hz5 g11
 go_wp2
 go_ret
 exact ⟨_, rfl, Or.inr ⟨by omega, ⟨g1, g2, G2.2, G3.2, (by show nr ≤ 1048576; omega), hne, (by show nk + nr ≤ 1048576; omega), G9.out⟩⟩, XP4.out.bel⟩
set_option maxHeartbeats 4000000 in
theorem eqState_any (a a' : SA) (s : St) (ss ss' : List Value) (w : World) (h : StRd w a s ss) (h' : StRd w a' s ss') (hn : a'.n = a.n ∧ a'.m = a.m ∧ a'.nu = a.nu ∧ a'.nk = a.nk ∧ a'.nr = a.nr ∧ a'.ne = a.ne) :
  Calls Tryz.prog 29 #[a.v s, a'.v s] w fun e w' => e = .returned (.bool true) ∧ Below w.heap.size w w' := by
 obtain ⟨A, B, U, K, R, E, n, m, nu, nk, nr, ne, c, d, cu, ck, cr, ce⟩ := a
 obtain ⟨A9, B9, U9, K9, R9, E9, n9, m9, nu9, nk9, nr9, ne9, c9, d9, cu9, ck9, cr9, ce9⟩ := a'
 obtain ⟨q1, q2, q3, q4, q5, q6⟩ := hn
 dsimp only at q1 q2 q3 q4 q5 q6
 subst q1 q2 q3 q4 q5 q6
 dsimp only [SA.v]
 have H := Lib.hid h
 have H' := Lib.hid h'
 clear h h'
 have BE : Below w.heap.size w ((w.alloc (.cells #[.slice A n9 c, .slice B m9 d, .slice U nu9 cu, .int .i64 s.lic.A, .int .i64 s.lic.B, .int .i64 s.lic.C, .int .i64 s.dep, .int .i64 s.now, .slice K nk9 ck, .slice R nr9 cr, .slice E ne9 ce] 77)).alloc (.cells #[.slice A9 n9 c9, .slice B9 m9 d9, .slice U9 nu9 cu9, .int .i64 s.lic.A, .int .i64 s.lic.B, .int .i64 s.lic.C, .int .i64 s.dep, .int .i64 s.now, .slice K9 nk9 ck9, .slice R9 nr9 cr9, .slice E9 ne9 ce9] 77)) := zAc (zAa _ _) (zAa _ _)
 have XP0 : Hid (BX w ((w.alloc (.cells #[.slice A n9 c, .slice B m9 d, .slice U nu9 cu, .int .i64 s.lic.A, .int .i64 s.lic.B, .int .i64 s.lic.C, .int .i64 s.dep, .int .i64 s.now, .slice K nk9 ck, .slice R nr9 cr, .slice E ne9 ce] 77)).alloc (.cells #[.slice A9 n9 c9, .slice B9 m9 d9, .slice U9 nu9 cu9, .int .i64 s.lic.A, .int .i64 s.lic.B, .int .i64 s.lic.C, .int .i64 s.dep, .int .i64 s.now, .slice K9 nk9 ck9, .slice R9 nr9 cr9, .slice E9 ne9 ce9] 77)) (w.heap.size) 77 [.slice A n9 c, .slice B m9 d, .slice U nu9 cu, .int .i64 s.lic.A, .int .i64 s.lic.B, .int .i64 s.lic.C, .int .i64 s.dep, .int .i64 s.now, .slice K nk9 ck, .slice R nr9 cr, .slice E ne9 ce]) := Lib.hid ⟨zAu (zAp _ rfl) _, BE, Nat.le_refl _⟩
 have XQ0 : Hid (BX w ((w.alloc (.cells #[.slice A n9 c, .slice B m9 d, .slice U nu9 cu, .int .i64 s.lic.A, .int .i64 s.lic.B, .int .i64 s.lic.C, .int .i64 s.dep, .int .i64 s.now, .slice K nk9 ck, .slice R nr9 cr, .slice E ne9 ce] 77)).alloc (.cells #[.slice A9 n9 c9, .slice B9 m9 d9, .slice U9 nu9 cu9, .int .i64 s.lic.A, .int .i64 s.lic.B, .int .i64 s.lic.C, .int .i64 s.dep, .int .i64 s.now, .slice K9 nk9 ck9, .slice R9 nr9 cr9, .slice E9 ne9 ce9] 77)) (w.heap.size + 1) 77 [.slice A9 n9 c9, .slice B9 m9 d9, .slice U9 nu9 cu9, .int .i64 s.lic.A, .int .i64 s.lic.B, .int .i64 s.lic.C, .int .i64 s.dep, .int .i64 s.now, .slice K9 nk9 ck9, .slice R9 nr9 cr9, .slice E9 ne9 ce9]) := Lib.hid ⟨zAp _ (by simp), BE, by omega⟩
 clear BE
 go_enter Tryz.func29, Tryz.ntmps29
 go_upto_region 1 with fail
 generalize (w.alloc (.cells #[.slice A n9 c, .slice B m9 d, .slice U nu9 cu, .int .i64 s.lic.A, .int .i64 s.lic.B, .int .i64 s.lic.C, .int .i64 s.dep, .int .i64 s.now, .slice K nk9 ck, .slice R nr9 cr, .slice E ne9 ce] 77)).alloc (.cells #[.slice A9 n9 c9, .slice B9 m9 d9, .slice U9 nu9 cu9, .int .i64 s.lic.A, .int .i64 s.lic.B, .int .i64 s.lic.C, .int .i64 s.dep, .int .i64 s.now, .slice K9 nk9 ck9, .slice R9 nr9 cr9, .slice E9 ne9 ce9] 77) = w0 at *
 have k0 := zAb XP0.out.bx 0 rfl
 have k1 := zAb XP0.out.bx 1 rfl
 have kf := zAh XP0.out.bx
 have kl := zAf XP0.out.bx
 simp only [zgc, zga, zgb] at k0 k1
 have q0 := zAb XQ0.out.bx 0 rfl
 have q1 := zAb XQ0.out.bx 1 rfl
 have qf := zAh XQ0.out.bx
 have ql := zAf XQ0.out.bx
 simp only [zgc, zga, zgb] at q0 q1
 go_wp2_with fail
 refine (eqTopo_any A A9 B B9 n9 c c9 m9 d d9 s.par s.nodes _ (Nat.le_succ_of_le H.out.n) (Nat.le_succ_of_le H.out.m) (H.out.bel XP0.out.bel).par (H'.out.bel XP0.out.bel).par (H.out.bel XP0.out.bel).nodes (H'.out.bel XP0.out.bel).nodes (H.out.bel XP0.out.bel).lA (H'.out.bel XP0.out.bel).lA (H.out.bel XP0.out.bel).lB (H'.out.bel XP0.out.bel).lB).mono ?_
 rintro e w1 ⟨rfl, hb1⟩
 have XP1 := Lib.hid (XP0.out.step hb1)
 have XQ1 := Lib.hid (XQ0.out.step hb1)
 clear hb1 XP0 XQ0 k0 k1 kf kl q0 q1 qf ql
 have k2 := zAb XP1.out.bx 2 rfl
 have kf := zAh XP1.out.bx
 have kl := zAf XP1.out.bx
 simp only [zgc, zga, zgb] at k2
 have q2 := zAb XQ1.out.bx 2 rfl
 have qf := zAh XQ1.out.bx
 have ql := zAf XQ1.out.bx
 simp only [zgc, zga, zgb] at q2
 go_wp2_with fail
 refine (eqBoolS_any U U9 nu9 cu cu9 s.up _ (Nat.le_succ_of_le H.out.nu) (H.out.bel XP1.out.bel).up (H'.out.bel XP1.out.bel).up).mono ?_
 rintro e w2 ⟨rfl, k2, hw2⟩
 have hb2 := below_eqN hw2
 have XP2 := Lib.hid (XP1.out.step hb2)
 have XQ2 := Lib.hid (XQ1.out.step hb2)
 clear hb2 XP1 XQ1 k2 kf kl q2 qf ql hw2
 have k3 := zAb XP2.out.bx 3 rfl
 have k4 := zAb XP2.out.bx 4 rfl
 have k5 := zAb XP2.out.bx 5 rfl
 have kf := zAh XP2.out.bx
 have kl := zAf XP2.out.bx
 simp only [zgc, zga, zgb] at k3 k4 k5
 have q3 := zAb XQ2.out.bx 3 rfl
 have q4 := zAb XQ2.out.bx 4 rfl
 have q5 := zAb XQ2.out.bx 5 rfl
 have qf := zAh XQ2.out.bx
 have ql := zAf XQ2.out.bx
 simp only [zgc, zga, zgb] at q3 q4 q5
 go_wp2_with fail
 refine (eqVec_int _ _ _ _).mono ?_
 rintro e w3 ⟨rfl, hb3⟩
 have XP3 := Lib.hid (XP2.out.step hb3)
 have XQ3 := Lib.hid (XQ2.out.step hb3)
 clear hb3 XP2 XQ2 k3 k4 k5 kf kl q3 q4 q5 qf ql
 have k6 := zAb XP3.out.bx 6 rfl
 have k7 := zAb XP3.out.bx 7 rfl
 have k8 := zAb XP3.out.bx 8 rfl
 have kf := zAh XP3.out.bx
 have kl := zAf XP3.out.bx
 simp only [zgc, zga, zgb] at k6 k7 k8
 have q6 := zAb XQ3.out.bx 6 rfl
 have q7 := zAb XQ3.out.bx 7 rfl
 have q8 := zAb XQ3.out.bx 8 rfl
 have qf := zAh XQ3.out.bx
 have ql := zAf XQ3.out.bx
 simp only [zgc, zga, zgb] at q6 q7 q8
 go_wp2_with fail
 refine (eqJobS_any K K9 nk9 ck ck9 s.queue _ (Nat.le_succ_of_le H.out.nk) (H.out.bel XP3.out.bel).queue (H'.out.bel XP3.out.bel).queue (H.out.bel XP3.out.bel).lK (H'.out.bel XP3.out.bel).lK).mono ?_
 rintro e w4 ⟨rfl, hb4⟩
 have XP4 := Lib.hid (XP3.out.step hb4)
 have XQ4 := Lib.hid (XQ3.out.step hb4)
 clear hb4 XP3 XQ3 k6 k7 k8 kf kl q6 q7 q8 qf ql
 have k9 := zAb XP4.out.bx 9 rfl
 have kf := zAh XP4.out.bx
 have kl := zAf XP4.out.bx
 simp only [zgc, zga, zgb] at k9
 have q9 := zAb XQ4.out.bx 9 rfl
 have qf := zAh XQ4.out.bx
 have ql := zAf XQ4.out.bx
 simp only [zgc, zga, zgb] at q9
 go_wp2_with fail
 refine (eqRunS_any R R9 nr9 cr cr9 ss ss' s.runs _ (Nat.le_succ_of_le H.out.nr) (H.out.bel XP4.out.bel).runs (H'.out.bel XP4.out.bel).runs).mono ?_
 rintro e w5 ⟨rfl, hb5⟩
 have XP5 := Lib.hid (XP4.out.step hb5)
 have XQ5 := Lib.hid (XQ4.out.step hb5)
 clear hb5 XP4 XQ4 k9 kf kl q9 qf ql
 have k10 := zAb XP5.out.bx 10 rfl
 have kf := zAh XP5.out.bx
 have kl := zAf XP5.out.bx
 simp only [zgc, zga, zgb] at k10
 have q10 := zAb XQ5.out.bx 10 rfl
 have qf := zAh XQ5.out.bx
 have ql := zAf XQ5.out.bx
 simp only [zgc, zga, zgb] at q10
 go_wp2_with fail
 refine (eqEndS_any E E9 ne9 ce ce9 s.ends _ (Nat.le_succ_of_le H.out.ne) (H.out.bel XP5.out.bel).ends (H'.out.bel XP5.out.bel).ends (H.out.bel XP5.out.bel).lE (H'.out.bel XP5.out.bel).lE).mono ?_
 rintro e w6 ⟨rfl, hb6⟩
 have XP6 := Lib.hid (XP5.out.step hb6)
 have XQ6 := Lib.hid (XQ5.out.step hb6)
 clear hb6 XP5 XQ5 k10 kf kl q10 qf ql
 go_wp2
 go_ret
 exact ⟨rfl, XP6.out.bel⟩
end Go.Proofs.YtnphjhbfpoekpaaGreat
