import Derived.Test.YtnphjhbfpoekpaaGreatWbPl
import Derived.Test.YtnphjhbfpoekpaaGreatWcPl
import Derived.Test.YtnphjhbfpoekpaaGreatA8Pl
namespace Go.Proofs.YtnphjhbfpoekpaaGreat
set_option linter.unusedSimpArgs false
set_option linter.unusedVariables false
set_option linter.unnecessarySimpa false
open Go.RowKit
structure SA where
 A : Option Addr
 B : Option Addr
 U : Option Addr
 K : Option Addr
 R : Option Addr
 E : Option Addr
 n : Nat
 m : Nat
 nu : Nat
 nk : Nat
 nr : Nat
 ne : Nat
 c : Nat
 d : Nat
 cu : Nat
 ck : Nat
 cr : Nat
 ce : Nat
def SA.v (a : SA) (s : St) : Value := .agg #[.slice a.A a.n a.c, .slice a.B a.m a.d, .slice a.U a.nu a.cu, .int .i64 s.lic.A, .int .i64 s.lic.B, .int .i64 s.lic.C, .int .i64 s.dep, .int .i64 s.now, .slice a.K a.nk a.ck, .slice a.R a.nr a.cr, .slice a.E a.ne a.ce]
structure StMax (a : SA) : Prop where
 n : a.n ≤ maxLen
 m : a.m ≤ maxLen
 nu : a.nu ≤ maxLen
 nk : a.nk ≤ maxLen
 nr : a.nr ≤ maxLen
 ne : a.ne ≤ maxLen
structure StSz (a : SA) (s : St) : Prop where
 n : a.n ≤ 1048576
 m : a.m ≤ 1048576
 nu : a.nu ≤ 1048576
 nk : a.nk ≤ 1048576
 nr : a.nr ≤ 1048576
 ne : a.ne ≤ 1048576
 kr : a.nk + a.nr ≤ 1048576
 nds : ∀ x ∈ s.runs, x.nd.length ≤ 1048576
structure StIn (w : World) (a : SA) (s : St) : Prop where
 par : RdI w a.A a.n s.par
 nodes : RdE w a.B a.m s.nodes
 up : RdB w a.U a.nu s.up
 queue : RdJ w a.K a.nk s.queue
 runs : RdNI w a.R a.nr s.runs
 ends : RdEn w a.E a.ne s.ends
theorem StIn.below {w w' : World} {a : SA} {s : St} (h : StIn w a s) (hb : Below w.heap.size w w') : StIn w' a s := ⟨h.par.below hb, h.nodes.below hb, h.up.below hb, h.queue.below hb, h.runs.below hb, h.ends.below hb⟩
structure StRd (w : World) (a : SA) (s : St) (ss : List Value) : Prop where
 n : a.n ≤ 1048576
 m : a.m ≤ 1048576
 nu : a.nu ≤ 1048576
 nk : a.nk ≤ 1048576
 nr : a.nr ≤ 1048576
 ne : a.ne ≤ 1048576
 kr : a.nk + a.nr ≤ 1048576
 par : Rd w a.A a.n 1 (ints s.par)
 nodes : Rd w a.B a.m 4 (flat s.nodes)
 up : Rd w a.U a.nu 1 (bools s.up)
 queue : Rd w a.K a.nk 11 (jflat s.queue)
 runs : RdN w a.R a.nr ss s.runs
 ends : Rd w a.E a.ne 3 (eflat s.ends)
 lA : ∀ g, a.A = some ⟨g, 0, none⟩ → g < w.heap.size
 lB : ∀ g, a.B = some ⟨g, 0, none⟩ → g < w.heap.size
 lU : ∀ g, a.U = some ⟨g, 0, none⟩ → g < w.heap.size
 lK : ∀ g, a.K = some ⟨g, 0, none⟩ → g < w.heap.size
 lE : ∀ g, a.E = some ⟨g, 0, none⟩ → g < w.heap.size
 kA : a.n ≤ a.c ∧ a.c ≤ 9223372036854775807
 kB : a.m ≤ a.d ∧ a.d ≤ 9223372036854775807
 kU : a.nu ≤ a.cu ∧ a.cu ≤ 9223372036854775807
 kK : a.nk ≤ a.ck ∧ a.ck ≤ 9223372036854775807
 kR : a.nr ≤ a.cr ∧ a.cr ≤ 9223372036854775807
 aA : (a.A = none ∧ a.n = 0 ∧ a.c = 0) ∨ ∃ g, a.A = some ⟨g, 0, none⟩
 aB : (a.B = none ∧ a.m = 0 ∧ a.d = 0) ∨ ∃ g, a.B = some ⟨g, 0, none⟩
 aU : (a.U = none ∧ a.nu = 0 ∧ a.cu = 0) ∨ ∃ g, a.U = some ⟨g, 0, none⟩
 aK : (a.K = none ∧ a.nk = 0 ∧ a.ck = 0) ∨ ∃ g, a.K = some ⟨g, 0, none⟩
theorem StRd.bel {w w' : World} {a : SA} {s : St} {ss : List Value} (h : StRd w a s ss) (hb : Below w.heap.size w w') : StRd w' a s ss :=
 ⟨h.n, h.m, h.nu, h.nk, h.nr, h.ne, h.kr, h.par.below h.lA hb, h.nodes.below h.lB hb, h.up.below h.lU hb, h.queue.below h.lK hb, h.runs.bel hb, h.ends.below h.lE hb, zAi h.lA hb, zAi h.lB hb, zAi h.lU hb, zAi h.lK hb, zAi h.lE hb, h.kA, h.kB, h.kU, h.kK, h.kR, h.aA, h.aB, h.aU, h.aK⟩
structure StOwn (w : World) (lo : Nat) (a : SA) (s : St) (ss : List Value) : Prop where
 n : a.n ≤ 1048576
 m : a.m ≤ 1048576
 nu : a.nu ≤ 1048576
 nk : a.nk ≤ 1048576
 nr : a.nr ≤ 1048576
 ne : a.ne ≤ 1048576
 kr : a.nk + a.nr ≤ 1048576
 par : w.ownsRow lo 3 1 (.slice a.A a.n a.c) a.n (ints s.par)
 nodes : w.ownsRow lo 199 4 (.slice a.B a.m a.d) a.m (flat s.nodes)
 up : w.ownsRow lo 4 1 (.slice a.U a.nu a.cu) a.nu (bools s.up)
 queue : w.ownsRow lo 95 11 (.slice a.K a.nk a.ck) a.nk (jflat s.queue)
 runs : OwnN w lo (.slice a.R a.nr a.cr) a.nr ss s.runs
 ends : w.ownsRow lo 139 3 (.slice a.E a.ne a.ce) a.ne (eflat s.ends)
 apart : ∀ (i : Nat) x, ss[i]? = some x → ∀ b, x.ownBlock = some b → ¬ atB a.A b
theorem StOwn.bel {w w' : World} {lo : Nat} {a : SA} {s : St} {ss : List Value} (h : StOwn w lo a s ss) (hb : Below w.heap.size w w') : StOwn w' lo a s ss :=
 ⟨h.n, h.m, h.nu, h.nk, h.nr, h.ne, h.kr, zAe h.par hb, zAe h.nodes hb, zAe h.up hb, zAe h.queue hb, h.runs.bel hb, zAe h.ends hb, h.apart⟩
theorem StOwn.mono {w : World} {lo lo' : Nat} {a : SA} {s : St} {ss : List Value} (h : StOwn w lo a s ss) (hl : lo' ≤ lo) : StOwn w lo' a s ss :=
 ⟨h.n, h.m, h.nu, h.nk, h.nr, h.ne, h.kr, zAn h.par hl, zAn h.nodes hl, zAn h.up hl, zAn h.queue hl, h.runs.mono hl, zAn h.ends hl, h.apart⟩
theorem own_addrS {w : World} {lo : Nat} {e : TypeId} {size : Nat} {A : Option Addr} {n c : Nat} {xs : List Value} (h : w.ownsRow lo e size (.slice A n c) n xs) : (A = none ∧ n = 0 ∧ c = 0) ∨ ∃ g, A = some ⟨g, 0, none⟩ := by
 rcases h.2 with ⟨h0, h1⟩ | ⟨g, cap, cur, hv, _⟩
 ·cases h0; exact Or.inl ⟨rfl, rfl, rfl⟩
 ·cases hv; exact Or.inr ⟨g, rfl⟩
theorem StOwn.rd {w : World} {lo : Nat} {a : SA} {s : St} {ss : List Value} (h : StOwn w lo a s ss) : StRd w a s ss :=
 ⟨h.n, h.m, h.nu, h.nk, h.nr, h.ne, h.kr, zAv h.par, zAv h.nodes, zAv h.up, zAv h.queue, h.runs.rd, zAv h.ends, own_blk h.par, own_blk h.nodes, own_blk h.up, own_blk h.queue, own_blk h.ends, own_cap9 h.par, own_cap9 h.nodes, own_cap9 h.up, own_cap9 h.queue, own_cap9 h.runs.own, own_addrS h.par, own_addrS h.nodes, own_addrS h.up, own_addrS h.queue⟩
theorem OwnN.sets {lo b : Nat} (hb : b < lo) {v : Value} {n : Nat} {ss : List Value} {hs : List Rn} (vs : List Value) (o : Nat) {wr : World} (h : OwnN wr lo v n ss hs) : OwnN (wr.setCells b o vs) lo v n ss hs :=
 ⟨own_sets hb vs o h.own, h.len, h.slen, fun k x p a c => ⟨(h.each k x p a c).1, own_sets hb vs o (h.each k x p a c).2⟩, h.apart⟩
set_option maxHeartbeats 4000000 in
theorem eqState_any (a a' : SA) (s : St) (ss ss' : List Value) (w : World) (h : StRd w a s ss) (h' : StRd w a' s ss') (hn : a'.n = a.n ∧ a'.m = a.m ∧ a'.nu = a.nu ∧ a'.nk = a.nk ∧ a'.nr = a.nr ∧ a'.ne = a.ne) :
  Calls Tryz.prog 29 #[a.v s, a'.v s] w fun e w' => e = .returned (.bool true) ∧ Below w.heap.size w w' := by
 obtain ⟨A, B, U, K, R, E, n, m, nu, nk, nr, ne, c, d, cu, ck, cr, ce⟩ := a
 obtain ⟨A9, B9, U9, K9, R9, E9, n9, m9, nu9, nk9, nr9, ne9, c9, d9, cu9, ck9, cr9, ce9⟩ := a'
 obtain ⟨q1, q2, q3, q4, q5, q6⟩ := hn
 dsimp only at q1 q2 q3 q4 q5 q6
 subst q1 q2 q3 q4 q5 q6
 dsimp only [SA.v]
 have H := Lib.hid h
 have H' := Lib.hid h'
 clear h h'
 have BE : Below w.heap.size w ((w.alloc (.cells #[.slice A n9 c, .slice B m9 d, .slice U nu9 cu, .int .i64 s.lic.A, .int .i64 s.lic.B, .int .i64 s.lic.C, .int .i64 s.dep, .int .i64 s.now, .slice K nk9 ck, .slice R nr9 cr, .slice E ne9 ce] 77)).alloc (.cells #[.slice A9 n9 c9, .slice B9 m9 d9, .slice U9 nu9 cu9, .int .i64 s.lic.A, .int .i64 s.lic.B, .int .i64 s.lic.C, .int .i64 s.dep, .int .i64 s.now, .slice K9 nk9 ck9, .slice R9 nr9 cr9, .slice E9 ne9 ce9] 77)) := zAc (zAa _ _) (zAa _ _)
 have XP0 : Hid (BX w ((w.alloc (.cells #[.slice A n9 c, .slice B m9 d, .slice U nu9 cu, .int .i64 s.lic.A, .int .i64 s.lic.B, .int .i64 s.lic.C, .int .i64 s.dep, .int .i64 s.now, .slice K nk9 ck, .slice R nr9 cr, .slice E ne9 ce] 77)).alloc (.cells #[.slice A9 n9 c9, .slice B9 m9 d9, .slice U9 nu9 cu9, .int .i64 s.lic.A, .int .i64 s.lic.B, .int .i64 s.lic.C, .int .i64 s.dep, .int .i64 s.now, .slice K9 nk9 ck9, .slice R9 nr9 cr9, .slice E9 ne9 ce9] 77)) (w.heap.size) 77 [.slice A n9 c, .slice B m9 d, .slice U nu9 cu, .int .i64 s.lic.A, .int .i64 s.lic.B, .int .i64 s.lic.C, .int .i64 s.dep, .int .i64 s.now, .slice K nk9 ck, .slice R nr9 cr, .slice E ne9 ce]) := Lib.hid ⟨zAu (zAk _ rfl) _, BE, Nat.le_refl _⟩
 have XQ0 : Hid (BX w ((w.alloc (.cells #[.slice A n9 c, .slice B m9 d, .slice U nu9 cu, .int .i64 s.lic.A, .int .i64 s.lic.B, .int .i64 s.lic.C, .int .i64 s.dep, .int .i64 s.now, .slice K nk9 ck, .slice R nr9 cr, .slice E ne9 ce] 77)).alloc (.cells #[.slice A9 n9 c9, .slice B9 m9 d9, .slice U9 nu9 cu9, .int .i64 s.lic.A, .int .i64 s.lic.B, .int .i64 s.lic.C, .int .i64 s.dep, .int .i64 s.now, .slice K9 nk9 ck9, .slice R9 nr9 cr9, .slice E9 ne9 ce9] 77)) (w.heap.size + 1) 77 [.slice A9 n9 c9, .slice B9 m9 d9, .slice U9 nu9 cu9, .int .i64 s.lic.A, .int .i64 s.lic.B, .int .i64 s.lic.C, .int .i64 s.dep, .int .i64 s.now, .slice K9 nk9 ck9, .slice R9 nr9 cr9, .slice E9 ne9 ce9]) := Lib.hid ⟨zAk _ (by simp), BE, by omega⟩
 clear BE
 go_enter Tryz.func29, Tryz.ntmps29
 go_upto_region 1 with fail
 generalize (w.alloc (.cells #[.slice A n9 c, .slice B m9 d, .slice U nu9 cu, .int .i64 s.lic.A, .int .i64 s.lic.B, .int .i64 s.lic.C, .int .i64 s.dep, .int .i64 s.now, .slice K nk9 ck, .slice R nr9 cr, .slice E ne9 ce] 77)).alloc (.cells #[.slice A9 n9 c9, .slice B9 m9 d9, .slice U9 nu9 cu9, .int .i64 s.lic.A, .int .i64 s.lic.B, .int .i64 s.lic.C, .int .i64 s.dep, .int .i64 s.now, .slice K9 nk9 ck9, .slice R9 nr9 cr9, .slice E9 ne9 ce9] 77) = w0 at *
 have k0 := zAb XP0.out.bx 0 rfl
 have k1 := zAb XP0.out.bx 1 rfl
 have kf := zAh XP0.out.bx
 have kl := zAf XP0.out.bx
 simp only [zgc, zga, zgb] at k0 k1
 have q0 := zAb XQ0.out.bx 0 rfl
 have q1 := zAb XQ0.out.bx 1 rfl
 have qf := zAh XQ0.out.bx
 have ql := zAf XQ0.out.bx
 simp only [zgc, zga, zgb] at q0 q1
 go_wp2_with fail
 refine (eqTopo_any A A9 B B9 n9 c c9 m9 d d9 s.par s.nodes _ (Nat.le_succ_of_le H.out.n) (Nat.le_succ_of_le H.out.m) (H.out.bel XP0.out.bel).par (H'.out.bel XP0.out.bel).par (H.out.bel XP0.out.bel).nodes (H'.out.bel XP0.out.bel).nodes (H.out.bel XP0.out.bel).lA (H'.out.bel XP0.out.bel).lA (H.out.bel XP0.out.bel).lB (H'.out.bel XP0.out.bel).lB).mono ?_
 rintro e w1 ⟨rfl, hb1⟩
 have XP1 := Lib.hid (XP0.out.step hb1)
 have XQ1 := Lib.hid (XQ0.out.step hb1)
 clear hb1 XP0 XQ0 k0 k1 kf kl q0 q1 qf ql
 have k2 := zAb XP1.out.bx 2 rfl
 have kf := zAh XP1.out.bx
 have kl := zAf XP1.out.bx
 simp only [zgc, zga, zgb] at k2
 have q2 := zAb XQ1.out.bx 2 rfl
 have qf := zAh XQ1.out.bx
 have ql := zAf XQ1.out.bx
 simp only [zgc, zga, zgb] at q2
 go_wp2_with fail
 refine (eqBoolS_any U U9 nu9 cu cu9 s.up _ (Nat.le_succ_of_le H.out.nu) (H.out.bel XP1.out.bel).up (H'.out.bel XP1.out.bel).up).mono ?_
 rintro e w2 ⟨rfl, k2, hw2⟩
 have hb2 := below_eqN hw2
 have XP2 := Lib.hid (XP1.out.step hb2)
 have XQ2 := Lib.hid (XQ1.out.step hb2)
 clear hb2 XP1 XQ1 k2 kf kl q2 qf ql hw2
 have k3 := zAb XP2.out.bx 3 rfl
 have k4 := zAb XP2.out.bx 4 rfl
 have k5 := zAb XP2.out.bx 5 rfl
 have kf := zAh XP2.out.bx
 have kl := zAf XP2.out.bx
 simp only [zgc, zga, zgb] at k3 k4 k5
 have q3 := zAb XQ2.out.bx 3 rfl
 have q4 := zAb XQ2.out.bx 4 rfl
 have q5 := zAb XQ2.out.bx 5 rfl
 have qf := zAh XQ2.out.bx
 have ql := zAf XQ2.out.bx
 simp only [zgc, zga, zgb] at q3 q4 q5
 go_wp2_with fail
 refine (eqVec_int _ _ _ _).mono ?_
 rintro e w3 ⟨rfl, hb3⟩
 have XP3 := Lib.hid (XP2.out.step hb3)
 have XQ3 := Lib.hid (XQ2.out.step hb3)
 clear hb3 XP2 XQ2 k3 k4 k5 kf kl q3 q4 q5 qf ql
 have k6 := zAb XP3.out.bx 6 rfl
 have k7 := zAb XP3.out.bx 7 rfl
 have k8 := zAb XP3.out.bx 8 rfl
 have kf := zAh XP3.out.bx
 have kl := zAf XP3.out.bx
 simp only [zgc, zga, zgb] at k6 k7 k8
 have q6 := zAb XQ3.out.bx 6 rfl
 have q7 := zAb XQ3.out.bx 7 rfl
 have q8 := zAb XQ3.out.bx 8 rfl
 have qf := zAh XQ3.out.bx
 have ql := zAf XQ3.out.bx
 simp only [zgc, zga, zgb] at q6 q7 q8
 go_wp2_with fail
 refine (eqJobS_any K K9 nk9 ck ck9 s.queue _ (Nat.le_succ_of_le H.out.nk) (H.out.bel XP3.out.bel).queue (H'.out.bel XP3.out.bel).queue (H.out.bel XP3.out.bel).lK (H'.out.bel XP3.out.bel).lK).mono ?_
 rintro e w4 ⟨rfl, hb4⟩
 have XP4 := Lib.hid (XP3.out.step hb4)
 have XQ4 := Lib.hid (XQ3.out.step hb4)
 clear hb4 XP3 XQ3 k6 k7 k8 kf kl q6 q7 q8 qf ql
 have k9 := zAb XP4.out.bx 9 rfl
 have kf := zAh XP4.out.bx
 have kl := zAf XP4.out.bx
 simp only [zgc, zga, zgb] at k9
 have q9 := zAb XQ4.out.bx 9 rfl
 have qf := zAh XQ4.out.bx
 have ql := zAf XQ4.out.bx
 simp only [zgc, zga, zgb] at q9
 go_wp2_with fail
 refine (eqRunS_any R R9 nr9 cr cr9 ss ss' s.runs _ (Nat.le_succ_of_le H.out.nr) (H.out.bel XP4.out.bel).runs (H'.out.bel XP4.out.bel).runs).mono ?_
 rintro e w5 ⟨rfl, hb5⟩
 have XP5 := Lib.hid (XP4.out.step hb5)
 have XQ5 := Lib.hid (XQ4.out.step hb5)
 clear hb5 XP4 XQ4 k9 kf kl q9 qf ql
 have k10 := zAb XP5.out.bx 10 rfl
 have kf := zAh XP5.out.bx
 have kl := zAf XP5.out.bx
 simp only [zgc, zga, zgb] at k10
 have q10 := zAb XQ5.out.bx 10 rfl
 have qf := zAh XQ5.out.bx
 have ql := zAf XQ5.out.bx
 simp only [zgc, zga, zgb] at q10
 go_wp2_with fail
 refine (eqEndS_any E E9 ne9 ce ce9 s.ends _ (Nat.le_succ_of_le H.out.ne) (H.out.bel XP5.out.bel).ends (H'.out.bel XP5.out.bel).ends (H.out.bel XP5.out.bel).lE (H'.out.bel XP5.out.bel).lE).mono ?_
 rintro e w6 ⟨rfl, hb6⟩
 have XP6 := Lib.hid (XP5.out.step hb6)
 have XQ6 := Lib.hid (XQ5.out.step hb6)
 clear hb6 XP5 XQ5 k10 kf kl q10 qf ql
 go_wp2
 go_ret
 exact ⟨rfl, XP6.out.bel⟩
end Go.Proofs.YtnphjhbfpoekpaaGreat
