import Derived.Test.YtnphjhbfpoekpaaGreatWePl
import Derived.Test.YtnphjhbfpoekpaaGreatFjPl
import Derived.Test.YtnphjhbfpoekpaaGreatLr0Pl
namespace Go.Proofs.YtnphjhbfpoekpaaGreat
set_option linter.unusedSimpArgs false
set_option linter.unusedVariables false
set_option linter.unnecessarySimpa false
open Go.RowKit
theorem own_disj {w : World} {lo lo' : Nat} {e e' : TypeId} {size size' : Nat} {A B : Option Addr} {n c m d : Nat} {xs ys : List Value} (h : w.ownsRow lo e size (.slice A n c) n xs) (h' : w.ownsRow lo' e' size' (.slice B m d) m ys) (he : e ≠ e') : ∀ k, atB A k → ¬ atB B k := by
 intro k h1 h2
 rcases h'.2 with ⟨hv, _⟩ | ⟨g, cap, cur, hv, hg, hh, _⟩
 ·injection hv with a1; obtain ⟨o, h2⟩ := h2; rw [a1] at h2; cases h2
 ·injection hv with a1
  obtain ⟨o, h2⟩ := h2
  rw [a1] at h2
  injection h2 with h2
  injection h2 with h3
  subst h3
  exact own_nb h hh he h1
theorem own_disjX {w : World} {lo lo' : Nat} {e e' : TypeId} {size size' : Nat} {A : Option Addr} {n c m : Nat} {x : Value} {xs ys : List Value} (h : w.ownsRow lo e size (.slice A n c) n xs) (h' : w.ownsRow lo' e' size' x m ys) (he : e' ≠ e) : ∀ k, x.ownBlock = some k → ¬ atB A k := by
 intro k h1 h2
 rcases h.2 with ⟨hv, _⟩ | ⟨g, cap, cur, hv, hg, hh, _⟩
 ·injection hv with a1; obtain ⟨o, h2⟩ := h2; rw [a1] at h2; cases h2
 ·injection hv with a1
  obtain ⟨o, h2⟩ := h2
  rw [a1] at h2
  injection h2 with h2
  injection h2 with h3
  exact zAm h' hh he k h1 h3.symm
theorem runs_apart {w : World} {lo : Nat} {R : Option Addr} {nr cr : Nat} {ss : List Value} {hs : List Rn} {lo' : Nat} {e : TypeId} {size : Nat} {A : Option Addr} {n c : Nat} {xs : List Value} (h : OwnN w lo (.slice R nr cr) nr ss hs) (h' : w.ownsRow lo' e size (.slice A n c) n xs) (he : 136 ≠ e) (hx : 3 ≠ e ∨ ∀ (i : Nat) x, ss[i]? = some x → ∀ b, x.ownBlock = some b → ¬ atB A b) : ∀ b, (atB R b ∨ atX ss nr b) → ¬ atB A b := by
 rintro b (h1 | ⟨i, x, hi, hxx, hb⟩)
 ·exact own_disj h.own h' he b h1
 ·rcases hx with hx | hx
  ·obtain ⟨p, hp⟩ : ∃ p, hs[i]? = some p := ⟨_, zgh (by have := h.len; omega)⟩
   exact own_disjX h' (h.each i x p hxx hp).2 hx b hb
  ·exact hx i x hxx b hb
theorem BX.fr {S : Nat → Prop} {w wr w' : World} {b : Nat} {t : TypeId} {cs : List Value} (h : BX w wr b t cs) (hf : Fr S wr w') (hn : ¬ S b) (hl : ∀ k, S k → w.heap.size ≤ k) : BX w w' b t cs := ⟨(hf.block b (zAf h.bx) hn).trans h.bx, h.bel.trans (hf.below hl h.bel.size), h.hb⟩
def atS (a : SA) (ss : List Value) (b : Nat) : Prop := (((atT a.A a.B b ∨ atB a.U b) ∨ atB a.K b) ∨ (atB a.R b ∨ atX ss a.nr b)) ∨ atB a.E b
theorem StOwn.rng {w : World} {lo : Nat} {a : SA} {s : St} {ss : List Value} (h : StOwn w lo a s ss) : ∀ b, atS a ss b → lo ≤ b ∧ b < w.heap.size := by
 rintro b (((((h1 | h1) | h1) | h1) | h1) | h1)
 ·exact own_rng h.par b h1
 ·exact own_rng h.nodes b h1
 ·exact own_rng h.up b h1
 ·exact own_rng h.queue b h1
 ·exact h.runs.rng b h1
 ·exact own_rng h.ends b h1
set_option maxHeartbeats 8000000 in
set_option maxRecDepth 20000 in
theorem markState_fr (a : SA) (s : St) (ss : List Value) (lo : Nat) (w : World) (h : StOwn w lo a s ss) :
  Calls Tryz.prog 34 #[a.v s, .int .i64 1] w fun e w' => (∃ K : Int, e = .returned (.int .i64 K) ∧ 0 ≤ K ∧ (a.nk = 0 → a.nr = 0 → a.ne = 0 → K = 1 + 1 * (a.n : Int) + 4 * (a.m : Int) + (a.nu : Int))) ∧
   Rd w' a.A a.n 1 (imarks 1 (a.n * 1)) ∧ Rd w' a.B a.m 4 (imarks (1 + 1 * (a.n : Int)) (a.m * 4)) ∧ Rd w' a.U a.nu 1 (bmarks (1 + (a.n : Int) + 4 * (a.m : Int)) a.nu) ∧ Fr (atS a ss) w w' := by
 obtain ⟨A, B, U, K, R, E, n, m, nu, nk, nr, ne, c, d, cu, ck, cr, ce⟩ := a
 dsimp only [SA.v]
 have hnr : nr ≤ 1048576 := h.nr
 have hne : ne ≤ 1048576 := h.ne
 have hnu : nu ≤ 1048576 := h.nu
 have hnn : n ≤ 1048576 := h.n
 have hmm : m ≤ 1048576 := h.m
 have hnk : nk ≤ 1048576 := h.nk
 have XP0 : Hid (BX w (w.alloc (.cells #[.slice A n c, .slice B m d, .slice U nu cu, .int .i64 s.lic.A, .int .i64 s.lic.B, .int .i64 s.lic.C, .int .i64 s.dep, .int .i64 s.now, .slice K nk ck, .slice R nr cr, .slice E ne ce] 77)) (w.heap.size) 77 [.slice A n c, .slice B m d, .slice U nu cu, .int .i64 s.lic.A, .int .i64 s.lic.B, .int .i64 s.lic.C, .int .i64 s.dep, .int .i64 s.now, .slice K nk ck, .slice R nr cr, .slice E ne ce]) := Lib.hid ⟨zAk _ rfl, zAa _ _, Nat.le_refl _⟩
 have H := Lib.hid (h.bel (zAa w (.cells #[.slice A n c, .slice B m d, .slice U nu cu, .int .i64 s.lic.A, .int .i64 s.lic.B, .int .i64 s.lic.C, .int .i64 s.dep, .int .i64 s.now, .slice K nk ck, .slice R nr cr, .slice E ne ce] 77)))
 have AB := Lib.hid (own_disj H.out.par H.out.nodes (by decide))
 have UA := Lib.hid (own_disj H.out.up H.out.par (by decide))
 have UB := Lib.hid (own_disj H.out.up H.out.nodes (by decide))
 have KA := Lib.hid (own_disj H.out.queue H.out.par (by decide))
 have KB := Lib.hid (own_disj H.out.queue H.out.nodes (by decide))
 have KU := Lib.hid (own_disj H.out.queue H.out.up (by decide))
 have RA := Lib.hid (runs_apart H.out.runs H.out.par (by decide) (Or.inr H.out.apart))
 have RB := Lib.hid (runs_apart H.out.runs H.out.nodes (by decide) (Or.inl (by decide)))
 have RU := Lib.hid (runs_apart H.out.runs H.out.up (by decide) (Or.inl (by decide)))
 have RK := Lib.hid (runs_apart H.out.runs H.out.queue (by decide) (Or.inl (by decide)))
 have RE := Lib.hid (runs_apart H.out.runs H.out.ends (by decide) (Or.inl (by decide)))
 have EA := Lib.hid (own_disj H.out.ends H.out.par (by decide))
 have EB := Lib.hid (own_disj H.out.ends H.out.nodes (by decide))
 have EU := Lib.hid (own_disj H.out.ends H.out.up (by decide))
 have EK := Lib.hid (own_disj H.out.ends H.out.queue (by decide))
 have GA : Hid (∀ b, atB A b → lo ≤ b ∧ b < w.heap.size) := Lib.hid (own_rng h.par)
 have GB : Hid (∀ b, atB B b → lo ≤ b ∧ b < w.heap.size) := Lib.hid (own_rng h.nodes)
 have GU : Hid (∀ b, atB U b → lo ≤ b ∧ b < w.heap.size) := Lib.hid (own_rng h.up)
 have GK : Hid (∀ b, atB K b → lo ≤ b ∧ b < w.heap.size) := Lib.hid (own_rng h.queue)
 have GR : Hid (∀ b, (atB R b ∨ atX ss nr b) → lo ≤ b ∧ b < w.heap.size) := Lib.hid h.runs.rng
 have GE : Hid (∀ b, atB E b → lo ≤ b ∧ b < w.heap.size) := Lib.hid (own_rng h.ends)
 have FF : Hid (Fr (atS ⟨A, B, U, K, R, E, n, m, nu, nk, nr, ne, c, d, cu, ck, cr, ce⟩ ss) w (w.alloc (.cells #[.slice A n c, .slice B m d, .slice U nu cu, .int .i64 s.lic.A, .int .i64 s.lic.B, .int .i64 s.lic.C, .int .i64 s.dep, .int .i64 s.now, .slice K nk ck, .slice R nr cr, .slice E ne ce] 77))) := Lib.hid (Fr.of_below _ (zAa _ _))
 clear h
 go_enter Tryz.func34, Tryz.ntmps34
 go_upto_region 1 with fail
 generalize w.alloc (.cells #[.slice A n c, .slice B m d, .slice U nu cu, .int .i64 s.lic.A, .int .i64 s.lic.B, .int .i64 s.lic.C, .int .i64 s.dep, .int .i64 s.now, .slice K nk ck, .slice R nr cr, .slice E ne ce] 77) = w1 at *
 have k0 := zAb XP0.out.bx 0 rfl
 have k1 := zAb XP0.out.bx 1 rfl
 have k2 := zAb XP0.out.bx 2 rfl
 have k3 := zAb XP0.out.bx 3 rfl
 have k4 := zAb XP0.out.bx 4 rfl
 have k5 := zAb XP0.out.bx 5 rfl
 have k6 := zAb XP0.out.bx 6 rfl
 have k7 := zAb XP0.out.bx 7 rfl
 have k8 := zAb XP0.out.bx 8 rfl
 have k9 := zAb XP0.out.bx 9 rfl
 have k10 := zAb XP0.out.bx 10 rfl
 have kf := zAh XP0.out.bx
 have kl := zAf XP0.out.bx
 simp only [zgc, zga, zgb] at k0 k1 k2 k3 k4 k5 k6 k7 k8 k9 k10
 go_wp2_with fail
 refine (markTopoG A B n c m d lo lo _ (by omega) (by omega) (own_wr2 H.out.par) (own_wr2 H.out.nodes) AB.out (fun k hk => Nat.lt_of_lt_of_le (GA.out k hk).2 (Nat.le_of_lt kl))).mono ?_
 rintro e w2 ⟨rfl, ra2, rb2, fr2⟩
 have FR2 := Lib.hid fr2
 replace k0 := (FR2.out.cell (b := w.heap.size) kl (fun hb => by have h9 := hb.elim (GA.out _) (GB.out _); omega) 0).trans k0
 replace k1 := (FR2.out.cell (b := w.heap.size) kl (fun hb => by have h9 := hb.elim (GA.out _) (GB.out _); omega) 1).trans k1
 replace k2 := (FR2.out.cell (b := w.heap.size) kl (fun hb => by have h9 := hb.elim (GA.out _) (GB.out _); omega) 2).trans k2
 replace k8 := (FR2.out.cell (b := w.heap.size) kl (fun hb => by have h9 := hb.elim (GA.out _) (GB.out _); omega) 8).trans k8
 replace k9 := (FR2.out.cell (b := w.heap.size) kl (fun hb => by have h9 := hb.elim (GA.out _) (GB.out _); omega) 9).trans k9
 replace k10 := (FR2.out.cell (b := w.heap.size) kl (fun hb => by have h9 := hb.elim (GA.out _) (GB.out _); omega) 10).trans k10
 replace kf := fun o => (FR2.out.frozen (b := w.heap.size) kl (fun hb => by have h9 := hb.elim (GA.out _) (GB.out _); omega) o).trans (kf o)
 replace kl := Nat.lt_of_lt_of_le kl FR2.out.size
 clear fr2
 have RDA2 := Lib.hid ra2
 have RDB2 := Lib.hid rb2
 have C2 := Lib.hid (show Fr (fun b => atT A B b) w1 w2 from FR2.out)
 clear ra2 rb2
 go_wp2_with fail
 refine (markBoolG U nu cu lo _ _ (by omega) (by omega) (by omega) (own_wr2 (own_fr H.out.up C2.out (fun k hk h9 => h9.elim (UA.out k (own_atB H.out.up hk)) (UB.out k (own_atB H.out.up hk)))))).mono ?_
 rintro e w3 ⟨rfl, ru3, fr3⟩
 have FR3 := Lib.hid fr3
 replace k0 := (FR3.out.cell (b := w.heap.size) kl (fun hb => by have h9 := GU.out _ hb; omega) 0).trans k0
 replace k1 := (FR3.out.cell (b := w.heap.size) kl (fun hb => by have h9 := GU.out _ hb; omega) 1).trans k1
 replace k2 := (FR3.out.cell (b := w.heap.size) kl (fun hb => by have h9 := GU.out _ hb; omega) 2).trans k2
 replace k8 := (FR3.out.cell (b := w.heap.size) kl (fun hb => by have h9 := GU.out _ hb; omega) 8).trans k8
 replace k9 := (FR3.out.cell (b := w.heap.size) kl (fun hb => by have h9 := GU.out _ hb; omega) 9).trans k9
 replace k10 := (FR3.out.cell (b := w.heap.size) kl (fun hb => by have h9 := GU.out _ hb; omega) 10).trans k10
 replace kf := fun o => (FR3.out.frozen (b := w.heap.size) kl (fun hb => by have h9 := GU.out _ hb; omega) o).trans (kf o)
 replace kl := Nat.lt_of_lt_of_le kl FR3.out.size
 clear fr3
 have RDU3 := Lib.hid ru3
 have C3 := Lib.hid (show Fr (fun b => atT A B b ∨ atB U b) w1 w3 from (C2.out.mono (fun k hk => Or.inl hk)).trans (FR3.out.mono (fun k hk => Or.inr hk)))
 clear ru3
 go_wp2_with fail
 refine (markJobF K nk ck lo _ _ (by omega) (by omega) (by omega) (own_wr2 (own_fr H.out.queue C3.out (fun k hk h9 => h9.elim (fun h9 => h9.elim (KA.out k (own_atB H.out.queue hk)) (KB.out k (own_atB H.out.queue hk))) (KU.out k (own_atB H.out.queue hk)))))).mono ?_
 rintro e w4 ⟨rfl, -, fr4⟩
 have FR4 := Lib.hid fr4
 replace k0 := (FR4.out.cell (b := w.heap.size) kl (fun hb => by have h9 := GK.out _ hb; omega) 0).trans k0
 replace k1 := (FR4.out.cell (b := w.heap.size) kl (fun hb => by have h9 := GK.out _ hb; omega) 1).trans k1
 replace k2 := (FR4.out.cell (b := w.heap.size) kl (fun hb => by have h9 := GK.out _ hb; omega) 2).trans k2
 replace k8 := (FR4.out.cell (b := w.heap.size) kl (fun hb => by have h9 := GK.out _ hb; omega) 8).trans k8
 replace k9 := (FR4.out.cell (b := w.heap.size) kl (fun hb => by have h9 := GK.out _ hb; omega) 9).trans k9
 replace k10 := (FR4.out.cell (b := w.heap.size) kl (fun hb => by have h9 := GK.out _ hb; omega) 10).trans k10
 replace kf := fun o => (FR4.out.frozen (b := w.heap.size) kl (fun hb => by have h9 := GK.out _ hb; omega) o).trans (kf o)
 replace kl := Nat.lt_of_lt_of_le kl FR4.out.size
 clear fr4
 have C4 := Lib.hid (show Fr (fun b => (atT A B b ∨ atB U b) ∨ atB K b) w1 w4 from (C3.out.mono (fun k hk => Or.inl hk)).trans (FR4.out.mono (fun k hk => Or.inr hk)))
 go_wp2_with fail
 refine (markRunS_fr R nr cr lo _ ss s.runs _ (by omega) (by omega) (by omega) (H.out.runs.fr C4.out (fun b hb h9 => h9.elim (fun h9 => h9.elim (fun h9 => h9.elim (RA.out b hb) (RB.out b hb)) (RU.out b hb)) (RK.out b hb)))).mono ?_
 rintro e w5 ⟨⟨K5, rfl, hk5, hk5'⟩, fr5⟩
 have FR5 := Lib.hid fr5
 replace k0 := (FR5.out.cell (b := w.heap.size) kl (fun hb => by have h9 := GR.out _ hb; omega) 0).trans k0
 replace k1 := (FR5.out.cell (b := w.heap.size) kl (fun hb => by have h9 := GR.out _ hb; omega) 1).trans k1
 replace k2 := (FR5.out.cell (b := w.heap.size) kl (fun hb => by have h9 := GR.out _ hb; omega) 2).trans k2
 replace k8 := (FR5.out.cell (b := w.heap.size) kl (fun hb => by have h9 := GR.out _ hb; omega) 8).trans k8
 replace k9 := (FR5.out.cell (b := w.heap.size) kl (fun hb => by have h9 := GR.out _ hb; omega) 9).trans k9
 replace k10 := (FR5.out.cell (b := w.heap.size) kl (fun hb => by have h9 := GR.out _ hb; omega) 10).trans k10
 replace kf := fun o => (FR5.out.frozen (b := w.heap.size) kl (fun hb => by have h9 := GR.out _ hb; omega) o).trans (kf o)
 replace kl := Nat.lt_of_lt_of_le kl FR5.out.size
 clear fr5
 have C5 := Lib.hid (show Fr (fun b => ((atT A B b ∨ atB U b) ∨ atB K b) ∨ (atB R b ∨ atX ss nr b)) w1 w5 from (C4.out.mono (fun k hk => Or.inl hk)).trans (FR5.out.mono (fun k hk => Or.inr hk)))
 go_wp2_with fail
 refine (markEndF E ne ce lo _ _ (by omega) (by omega) (by omega) (own_wr2 (own_fr H.out.ends C5.out (fun k hk h9 => by
  have h8 := own_atB H.out.ends hk
  exact h9.elim (fun h9 => h9.elim (fun h9 => h9.elim (fun h9 => h9.elim (EA.out k h8) (EB.out k h8)) (EU.out k h8)) (EK.out k h8)) (fun h9 => RE.out k h9 h8))))).mono ?_
 rintro e w6 ⟨rfl, -, fr6⟩
 have FR6 := Lib.hid fr6
 have D3 := Lib.hid (show Fr (fun b => atB K b ∨ (atB R b ∨ atX ss nr b) ∨ atB E b) w3 w6 from ((FR4.out.mono (fun k hk => Or.inl hk)).trans (FR5.out.mono (fun k hk => Or.inr (Or.inl hk)))).trans (FR6.out.mono (fun k hk => Or.inr (Or.inr hk))))
 have D2 := Lib.hid (show Fr (fun b => atB U b ∨ atB K b ∨ (atB R b ∨ atX ss nr b) ∨ atB E b) w2 w6 from (FR3.out.mono (fun k hk => Or.inl hk)).trans (D3.out.mono (fun k hk => Or.inr hk)))
 have L2 : ∀ g, g < w.heap.size → g < w2.heap.size := fun g hg => Nat.lt_of_lt_of_le hg (Nat.le_trans FF.out.size FR2.out.size)
 have L3 : ∀ g, g < w.heap.size → g < w3.heap.size := fun g hg => Nat.lt_of_lt_of_le hg (Nat.le_trans FF.out.size C3.out.size)
 have QA := Lib.hid (Rd.fr RDA2.out (fun g hg => L2 g (GA.out g ⟨0, hg⟩).2) D2.out (fun k hk h9 => h9.elim (fun h9 => UA.out k h9 hk) (fun h9 => h9.elim (fun h9 => KA.out k h9 hk) (fun h9 => h9.elim (fun h9 => RA.out k h9 hk) (fun h9 => EA.out k h9 hk)))))
 have QB := Lib.hid (Rd.fr RDB2.out (fun g hg => L2 g (GB.out g ⟨0, hg⟩).2) D2.out (fun k hk h9 => h9.elim (fun h9 => UB.out k h9 hk) (fun h9 => h9.elim (fun h9 => KB.out k h9 hk) (fun h9 => h9.elim (fun h9 => RB.out k h9 hk) (fun h9 => EB.out k h9 hk)))))
 have QU := Lib.hid (Rd.fr RDU3.out (fun g hg => L3 g (GU.out g ⟨0, hg⟩).2) D3.out (fun k hk h9 => h9.elim (fun h9 => KU.out k h9 hk) (fun h9 => h9.elim (fun h9 => RU.out k h9 hk) (fun h9 => EU.out k h9 hk))))
 clear fr6 L2 L3
 go_wp2
 go_ret
 exact ⟨⟨_, rfl, by omega, fun h1 h2 h3 => by omega⟩, QA.out, QB.out, QU.out, FF.out.trans ((C5.out.mono (fun k hk => Or.inl hk)).trans (FR6.out.mono (fun k hk => Or.inr hk)))⟩
end Go.Proofs.YtnphjhbfpoekpaaGreat
