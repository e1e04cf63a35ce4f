import Derived.Test.YtnphjhbfpoekpaaGreatWdPl
import Derived.Test.YtnphjhbfpoekpaaGreatFdPl
import Derived.Test.YtnphjhbfpoekpaaGreatFfPl
import Derived.Test.YtnphjhbfpoekpaaGreatFhPl
import Derived.Test.YtnphjhbfpoekpaaGreatApPl
namespace Go.Proofs.YtnphjhbfpoekpaaGreat
set_option linter.unusedSimpArgs false
set_option linter.unusedVariables false
set_option linter.unnecessarySimpa false
open Go.RowKit
theorem RoomOwn.lic {w : World} {lo lo' : Nat} {a : RA} {r : Rm} {xs : List Value} {X : Option Addr} {cx : Nat} {l : List Q} (h : RoomOwn w lo a r xs) (hu : w.ownsRow lo' 177 4 (.slice X l.length cx) l.length (flat l)) (hlo : lo ≤ lo') (hl : l.length ≤ 1048576) (hfr : ∀ (i : Nat) y, xs[i]? = some y → ∀ b, y.ownBlock = some b → b < lo') : RoomOwn w lo { a with L := X, nl := l.length, cl := cx } { r with lics := l } xs :=
 ⟨h.n, h.m, h.nu, h.np, hl, h.par, h.nodes, h.up, h.profs, zAn hu hlo, fun i x hx b hb hb2 => by
  have e1 := hfr i x hx b hb
  have e2 := (own_rng hu b hb2).1
  omega⟩
structure TE (w wr : World) (b : Nat) (vA vB vU : Value) (pss : List (List Q)) (R : Option Addr) (k cp : Nat) (xs : List Value) : Prop where
 bx : wr.heap[b]? = some (.cells #[vA, vB, vU, .slice R k cp, .slice none 0 0] 33 (0, 0))
 profs : OwnP wr w.heap.size (.slice R k cp) k xs (pss.take k)
 bel : Below w.heap.size w wr
 hb : w.heap.size ≤ b
theorem TE.step {w wr w' : World} {b : Nat} {vA vB vU : Value} {pss : List (List Q)} {R : Option Addr} {k cp : Nat} {xs : List Value} (h : TE w wr b vA vB vU pss R k cp xs) (hb : Below wr.heap.size wr w') : TE w w' b vA vB vU pss R k cp xs := ⟨zAg h.bx hb, h.profs.bel hb, zAc h.bel hb, h.hb⟩
theorem TE.app {w wr w' : World} {b : Nat} {vA vB vU : Value} {pss : List (List Q)} {R R' : Option Addr} {k cp cp' : Nat} {xs : List Value} {x : Value} {ps : List Q} (h : TE w wr b vA vB vU pss R k cp xs) (hps : pss[k]? = some ps)
  (ho : w'.ownsRow w.heap.size 31 1 (.slice R' (k + 1) cp') (k + 1) (xs ++ [x])) (hg : wr.grownBy w' (Value.slice R k cp).ownBlock) {lo : Nat} (hx : wr.ownsRow lo 177 4 x ps.length (flat ps)) (hlo : w.heap.size ≤ lo) (hl : ps.length ≤ 1048576)
  (hap : ∀ (i : Nat) y, xs[i]? = some y → ∀ b, y.ownBlock = some b → x.ownBlock ≠ some b) : TE w (w'.setCell ⟨b, 3, none⟩ (.slice R' (k + 1) cp')) b vA vB vU pss R' (k + 1) cp' (xs ++ [x]) := by
 have hrow : ∀ j, (Value.slice R k cp).ownBlock = some j → j ≠ b := zAm h.profs.own h.bx (by decide)
 have b1 := zAr h.bx hg hrow
 have b2 := zAq (i := 3) (v := .slice R' (k + 1) cp') b1
 refine ⟨by simpa using b2, ?_, (Below.grown h.bel hg h.bel.size (fun j hj => own_ge h.profs.own j hj)).setCell (by have := h.hb; show w.heap.size ≤ b; omega) _, h.hb⟩
 rw [take_snoc' hps]
 exact (h.profs.app ho hg (zAn hx hlo) hl hap).box b1 3 _
theorem newP_len9 (v : V) : (newP v).length ≤ 1 := by unfold newP; split <;> simp
theorem BX.grown {w wr w' : World} {b : Nat} {t : TypeId} {cs : List Value} {row : Option Nat} (h : BX w wr b t cs) (hg : wr.grownBy w' row) (h1 : ∀ j, row = some j → j ≠ b) (h2 : ∀ j, row = some j → w.heap.size ≤ j) : BX w w' b t cs := ⟨zAr h.bx hg h1, Below.grown h.bel hg h.bel.size h2, h.hb⟩
set_option maxHeartbeats 8000000 in
set_option maxRecDepth 20000 in
theorem Empty_any (a : SA) (s : St) (ss : List Value) (w : World) (h : StRd w a s ss) :
  Calls Tryz.prog 102 #[.agg #[.slice a.A a.n a.c, .slice a.B a.m a.d], .slice a.U a.nu a.cu, .agg #[.int .i64 s.lic.A, .int .i64 s.lic.B, .int .i64 s.lic.C]] w fun e w' => ∃ a' xs, e = .returned (RA.v a') ∧ RoomOwn w' w.heap.size a' s.empty xs ∧ Below w.heap.size w w' := by
 obtain ⟨A, B, U, K, R, E, n, m, nu, nk, nr, ne, c, d, cu, ck, cr, ce⟩ := a
 dsimp only
 have H := Lib.hid h
 have HMM : Hid (s.nodes.length = m ∧ m ≤ 1048576) := Lib.hid ⟨by have := h.nodes.1; rw [flat_len] at this; simp only at this; omega, h.m⟩
 have hm9 : m ≤ 1048576 := HMM.out.2
 obtain ⟨iP, hiP, hzP1, hzP2, hzP3⟩ := info_parts infoProf
 obtain ⟨iB, hiB, hzB1, hzB2, hzB3⟩ := info_parts infoB
 clear h
 have BE : Below w.heap.size w (((w.alloc (.cells #[.slice A n c, .slice B m d] 26)).alloc (.cells #[.int .i64 s.lic.A, .int .i64 s.lic.B, .int .i64 s.lic.C] 73)).alloc (.cells #[.slice none 0 0, .slice none 0 0, .slice none 0 0, .slice none 0 0, .slice none 0 0] 33)) := zAc (zAc (zAa _ _) (zAa _ _)) (zAa _ _)
 have XT0 : Hid (BX w (((w.alloc (.cells #[.slice A n c, .slice B m d] 26)).alloc (.cells #[.int .i64 s.lic.A, .int .i64 s.lic.B, .int .i64 s.lic.C] 73)).alloc (.cells #[.slice none 0 0, .slice none 0 0, .slice none 0 0, .slice none 0 0, .slice none 0 0] 33)) (w.heap.size) 26 [.slice A n c, .slice B m d]) := Lib.hid ⟨zAu (zAu (zAk _ rfl) _) _, BE, Nat.le_refl _⟩
 have XL0 : Hid (BX w (((w.alloc (.cells #[.slice A n c, .slice B m d] 26)).alloc (.cells #[.int .i64 s.lic.A, .int .i64 s.lic.B, .int .i64 s.lic.C] 73)).alloc (.cells #[.slice none 0 0, .slice none 0 0, .slice none 0 0, .slice none 0 0, .slice none 0 0] 33)) (w.heap.size + 1) 73 [.int .i64 s.lic.A, .int .i64 s.lic.B, .int .i64 s.lic.C]) := Lib.hid ⟨zAu (zAk _ (by simp)) _, BE, by omega⟩
 have XR0 : Hid (BX w (((w.alloc (.cells #[.slice A n c, .slice B m d] 26)).alloc (.cells #[.int .i64 s.lic.A, .int .i64 s.lic.B, .int .i64 s.lic.C] 73)).alloc (.cells #[.slice none 0 0, .slice none 0 0, .slice none 0 0, .slice none 0 0, .slice none 0 0] 33)) (w.heap.size + 1 + 1) 33 [.slice none 0 0, .slice none 0 0, .slice none 0 0, .slice none 0 0, .slice none 0 0]) := Lib.hid ⟨zAk _ (by simp), BE, by omega⟩
 clear BE
 go_enter Tryz.func102, Tryz.ntmps102
 go_upto_region 1 with fail
 generalize ((w.alloc (.cells #[.slice A n c, .slice B m d] 26)).alloc (.cells #[.int .i64 s.lic.A, .int .i64 s.lic.B, .int .i64 s.lic.C] 73)).alloc (.cells #[.slice none 0 0, .slice none 0 0, .slice none 0 0, .slice none 0 0, .slice none 0 0] 33) = w0 at *
 have k0 := zAb XT0.out.bx 0 rfl
 have k1 := zAb XT0.out.bx 1 rfl
 have kf := zAh XT0.out.bx
 have kl := zAf XT0.out.bx
 simp only [zgc, zga, zgb] at k0 k1
 go_wp2_with fail
 refine (copyTopo_any A B n c m d s.par s.nodes _ H.out.n H.out.m (H.out.bel XT0.out.bel).par (H.out.bel XT0.out.bel).nodes (H.out.bel XT0.out.bel).lA (H.out.bel XT0.out.bel).lB H.out.aA H.out.aB).mono ?_
 rintro e w1 ⟨u1, v1, rfl, ou, ov, hb1⟩
 obtain ⟨A1, c1, rfl, _⟩ := zAt ou
 obtain ⟨B1, d1, rfl, _⟩ := zAt ov
 have hw0 := zAf XR0.out.bx
 have XT1 := Lib.hid (XT0.out.step hb1)
 have XL1 := Lib.hid (XL0.out.step hb1)
 have XR1 := Lib.hid (XR0.out.step hb1)
 have hs1 := hb1.size
 have OU1 := Lib.hid ou
 have OV1 := Lib.hid ov
 clear hb1 ou ov k0 k1 kf kl XT0 XL0 XR0
 go_wp2_with (at_builtin; refine zAw rfl _ _ 27 rfl w0.heap.size 4 iB (.bool false) 1 1 Tryz.underlying27 hiB hzB1 hzB2 hzB3 rfl (by decide) (.slice none 0 0) 0 [] rfl (own_nil _ _ _ _) U nu cu (bools s.up) rfl H.out.aU (H.out.bel XT1.out.bel).up bools_one (by have := H.out.nu; unfold maxLen; simp only at this; omega) (by have := H.out.nu; simp only at this; omega) hs1 ?_)
 intro v2 w2 own2 hg2 _
 have hb2 : Below w1.heap.size w1 w2 := Below.grown (Below.refl _ _) hg2 (Nat.le_refl _) (fun k hk => by simp [Value.ownBlock] at hk)
 obtain ⟨U2, cu2, rfl, _⟩ := zAt own2
 obtain ⟨r9, hr9⟩ : ∃ y : Rm, y = { s.empty with lics := [] } := ⟨_, rfl⟩
 have HR9 := Lib.hid hr9
 have hs2 := hb2.size
 have T3 : Hid (TR w (w2.alloc (.cells #[.slice A1 n c1, .slice B1 m d1, .slice U2 nu cu2, .slice none 0 0, .slice none 0 0] 33)) w2.heap.size ⟨A1, B1, U2, none, none, n, m, nu, 0, 0, c1, d1, cu2, 0, 0⟩ r9 none 0 0 []) := Lib.hid (by
  have e1 : r9.par = s.par := by rw [hr9]; rfl
  have e2 : r9.nodes = s.nodes := by rw [hr9]; rfl
  have e3 : r9.up = s.up := by rw [hr9]; rfl
  have e4 : r9.lics = [] := by rw [hr9]
  exact TR.start2 (a := ⟨A1, B1, U2, none, none, n, m, nu, 0, 0, c1, d1, cu2, 0, 0⟩) (r := r9) (by rw [e1]; exact zAn (zAe OU1.out hb2) (by omega)) (by rw [e2]; exact zAn (zAe OV1.out hb2) (by omega)) (by rw [e3]; exact zAn own2 (by omega)) (by rw [e4]; exact own_nil _ _ _ _) (zAc XT1.out.bel hb2) (by omega))
 have XT3 := Lib.hid ((XT1.out.step hb2).step (zAa w2 (.cells #[.slice A1 n c1, .slice B1 m d1, .slice U2 nu cu2, .slice none 0 0, .slice none 0 0] 33)))
 have XL3 := Lib.hid ((XL1.out.step hb2).step (zAa w2 (.cells #[.slice A1 n c1, .slice B1 m d1, .slice U2 nu cu2, .slice none 0 0, .slice none 0 0] 33)))
 have XR3 := Lib.hid ((XR1.out.step hb2).step (zAa w2 (.cells #[.slice A1 n c1, .slice B1 m d1, .slice U2 nu cu2, .slice none 0 0, .slice none 0 0] 33)))
 clear hr9 hb2 own2 hg2 OU1 OV1 XT1 XL1 XR1
 go_upto_region 2 with fail
 obtain ⟨br, hbr9⟩ : ∃ y, y = w2.heap.size := ⟨_, rfl⟩
 have hbr : w.heap.size + 1 + 1 < br := by omega
 rw [← hbr9] at T3 ⊢
 generalize w2.alloc (.cells #[.slice A1 n c1, .slice B1 m d1, .slice U2 nu cu2, .slice none 0 0, .slice none 0 0] 33) = w3 at *
 clear hbr9 hs2 hs1 hw0
 have k1 := zAb XT3.out.bx 1 rfl
 have kf := zAh XT3.out.bx
 have kl := zAf XT3.out.bx
 simp only [zgc, zga, zgb] at k1
 go_wp2
 clear k1 kf kl XT3
 go_loopw [20] (fun i wr => ∃ (q : Nat) (Rp : Option Addr) (cp : Nat) (xs : List Value), q ≤ m ∧ i = .int .i64 q ∧ TR w wr br ⟨A1, B1, U2, none, none, n, m, nu, 0, 0, c1, d1, cu2, 0, 0⟩ r9 Rp q cp xs ∧ BX w wr (w.heap.size + 1) 73 [.int .i64 s.lic.A, .int .i64 s.lic.B, .int .i64 s.lic.C] ∧ BX w wr (w.heap.size + 1 + 1) 33 [.slice none 0 0, .slice none 0 0, .slice none 0 0, .slice none 0 0, .slice none 0 0]) (fun i _ => m - (intOf i).toNat)
 case atStart => exact ⟨0, none, 0, [], Nat.zero_le _, rfl, T3.out, XL3.out, XR3.out⟩
 case round =>
 clear T3 XL3 XR3
 obtain ⟨q, Rp, cp, xs, hq, rfl, T', XL', XR'⟩ := hrel
 obtain ⟨wo, rfl⟩ : ∃ x, x = wr := ⟨wr, rfl⟩
 have T4 := Lib.hid T'
 have XL4 := Lib.hid XL'
 have XR4 := Lib.hid XR'
 clear T' XL' XR'
 by_cases hlt : q < m
 ·have hlt' : (q : Int) < m := by omega
  obtain ⟨g, p, rfl, hp, d0, d1, d2, d3⟩ := (H.out.bel T4.out.bel).nodes.q hlt
  have HPQ := Lib.hid hp
  obtain ⟨NV, hNV⟩ : ∃ y : V, y = ⟨p.a, p.b, p.c⟩ := ⟨_, rfl⟩
  have HNV := Lib.hid hNV
  have T5 := Lib.hid (T4.out.step (zAa wo (.cells #[.int .i64 p.t, .int .i64 p.a, .int .i64 p.b, .int .i64 p.c] 199)))
  have ND5 : Hid (BX w (wo.alloc (.cells #[.int .i64 p.t, .int .i64 p.a, .int .i64 p.b, .int .i64 p.c] 199)) wo.heap.size 199 [.int .i64 p.t, .int .i64 p.a, .int .i64 p.b, .int .i64 p.c]) := Lib.hid ⟨zAk _ rfl, T5.out.bel, T4.out.bel.size⟩
  have XL5 := Lib.hid (XL4.out.step (zAa wo (.cells #[.int .i64 p.t, .int .i64 p.a, .int .i64 p.b, .int .i64 p.c] 199)))
  have XR5 := Lib.hid (XR4.out.step (zAa wo (.cells #[.int .i64 p.t, .int .i64 p.a, .int .i64 p.b, .int .i64 p.c] 199)))
  clear hp hNV
  go_upto_region 5 with fail
  clear d0 d1 d2 d3 T4 XL4 XR4
  generalize wo.alloc (.cells #[.int .i64 p.t, .int .i64 p.a, .int .i64 p.b, .int .i64 p.c] 199) = w5 at *
  generalize wo.heap.size = bn at *
  have k1 := zAb ND5.out.bx 1 rfl
  have k2 := zAb ND5.out.bx 2 rfl
  have k3 := zAb ND5.out.bx 3 rfl
  have kf := zAh ND5.out.bx
  have kl := zAf ND5.out.bx
  simp only [zgc, zga, zgb] at k1 k2 k3
  go_wp2_with fail
  refine (profNew_any ⟨p.a, p.b, p.c⟩ _).mono ?_
  rintro e w6 ⟨u6, rfl, own6, hb6⟩
  rw [← HNV.out] at own6 ⊢
  obtain ⟨X, cX, rfl, _⟩ := zAt own6
  have hw5 : w.heap.size ≤ w5.heap.size := T5.out.bel.size
  have HFX : Hid (∀ (i : Nat) y, xs[i]? = some y → ∀ b, y.ownBlock = some b → b < w5.heap.size) := Lib.hid (fun i y hi b hb => T5.out.profs.ltx hi hb)
  have PC6 : Hid (BX w (w6.alloc (.cells #[.slice X (newP NV).length cX] 31)) w6.heap.size 31 [.slice X (newP NV).length cX]) := Lib.hid ⟨zAk _ rfl, zAc (zAc T5.out.bel hb6) (zAa _ _), (zAc T5.out.bel hb6).size⟩
  have OX6 := Lib.hid (zAe own6 (zAa w6 (.cells #[.slice X (newP NV).length cX] 31)))
  have T6 := Lib.hid ((T5.out.step hb6).step (zAa w6 (.cells #[.slice X (newP NV).length cX] 31)))
  have XL6 := Lib.hid ((XL5.out.step hb6).step (zAa w6 (.cells #[.slice X (newP NV).length cX] 31)))
  have XR6 := Lib.hid ((XR5.out.step hb6).step (zAa w6 (.cells #[.slice X (newP NV).length cX] 31)))
  clear own6 hb6 k1 k2 k3 kf kl T5 ND5 XL5 XR5
  go_upto_region 6 with fail
  generalize w6.alloc (.cells #[.slice X (newP NV).length cX] 31) = wB at *
  generalize w6.heap.size = bp at *
  have k3 := zAb T6.out.bx 3 rfl
  have kf := zAh T6.out.bx
  have kl := zAf T6.out.bx
  simp only [zgc, zga, zgb] at k3
  have y0 := zAb PC6.out.bx 0 rfl
  have yf := zAh PC6.out.bx
  have yl := zAf PC6.out.bx
  simp only [zgc, zga, zgb] at y0
  go_wp2_with (at_builtin; refine zAw rfl _ _ 28 rfl w.heap.size 31 iP (.agg #[.slice none 0 0]) 1 24 Tryz.underlying28 hiP hzP1 hzP2 hzP3 rfl (by decide) (.slice Rp q cp) q xs rfl ?ca (some ⟨wB.heap.size, 0, none⟩) 1 1 [.slice X (newP NV).length cX] rfl (Or.inr ⟨_, rfl⟩) ?cb ?cc ?cd ?ce ?cf ?_)
  case ca => exact zAe T6.out.profs.own (zAa _ _)
  case cb => exact zAv (own_lit (lo := 0) (cs := [.slice X (newP NV).length cX]) (n := 1) (size := 1) (e := 31) (zAk _ rfl) rfl (by decide) (Nat.zero_le _))
  case cc => intro u hu; simp only [List.mem_cons, List.not_mem_nil, or_false] at hu; rcases hu with rfl; rfl
  case cd => unfold maxLen; have := HMM.out; omega
  case ce => have := HMM.out; omega
  case cf => have := T6.out.bel.size; first | omega | (simp <;> omega)
  intro vZ wZ ownZ hgZ hneZ hatZ
  obtain ⟨Rp9, cp9, rfl, _⟩ := zAt ownZ
  have TZ := Lib.hid ((T6.out.step (zAa wB (.cells #[.slice X (newP NV).length cX] 31))).app (ps := newP NV) (by rw [HR9.out]; exact (by show (s.nodes.map _)[q]? = _; rw [List.getElem?_map, HPQ.out, HNV.out]; rfl)) ownZ hgZ (zAe OX6.out (zAa _ _)) hw5 (by have := newP_len9 NV; omega) (fun i y hi b hb e => by have q1 := HFX.out i y hi b hb; have q2 := own_ge OX6.out b e; omega) (fun _ _ h => by obtain ⟨_, h⟩ := h; cases h))
  have kz := zAr (zAu T6.out.bx _) hgZ (zAm (zAe T6.out.profs.own (zAa wB (.cells #[.slice X (newP NV).length cX] 31))) (zAu T6.out.bx _) (by decide))
  have kz3 := zAb kz 3 rfl
  have kzf := zAh kz
  have kzl := zAf kz
  simp only [zgc, zga, zgb] at kz3
  have XLZ := Lib.hid ((BX.grown (XL6.out.step (zAa wB (.cells #[.slice X (newP NV).length cX] 31))) hgZ (zAm (zAe T6.out.profs.own (zAa wB (.cells #[.slice X (newP NV).length cX] 31))) (XL6.out.step (zAa wB (.cells #[.slice X (newP NV).length cX] 31))).bx (by decide)) (own_ge (zAe T6.out.profs.own (zAa wB (.cells #[.slice X (newP NV).length cX] 31))))).far (b' := br) (by omega) (by omega) 3 (.slice Rp9 (q + 1) cp9))
  have XRZ := Lib.hid ((BX.grown (XR6.out.step (zAa wB (.cells #[.slice X (newP NV).length cX] 31))) hgZ (zAm (zAe T6.out.profs.own (zAa wB (.cells #[.slice X (newP NV).length cX] 31))) (XR6.out.step (zAa wB (.cells #[.slice X (newP NV).length cX] 31))).bx (by decide)) (own_ge (zAe T6.out.profs.own (zAa wB (.cells #[.slice X (newP NV).length cX] 31))))).far (b' := br) (by omega) (by omega) 3 (.slice Rp9 (q + 1) cp9))
  clear ownZ hgZ hneZ hatZ kz T6 PC6 OX6 XL6 XR6 y0 yf yl k3 kf kl
  go_wp2
  exact ⟨⟨q + 1, Rp9, cp9, xs ++ [.slice X (newP NV).length cX], by omega, by go_num, TZ.out, XLZ.out, XRZ.out⟩, by simp [intOf]; omega⟩
 ·obtain rfl : m = q := by omega
  have hlt' : ¬ ((m : Nat) : Int) < m := by omega
  have RD := Lib.hid (T4.out.done (by rw [HR9.out]; simpa [St.empty] using HMM.out.1) H.out.n H.out.m H.out.nu HMM.out.2 (Nat.zero_le _))
  have k0 := zAb XL4.out.bx 0 rfl
  have k1 := zAb XL4.out.bx 1 rfl
  have k2 := zAb XL4.out.bx 2 rfl
  have kf := zAh XL4.out.bx
  have kl := zAf XL4.out.bx
  simp only [zgc, zga, zgb] at k0 k1 k2
  go_wp2_with fail
  refine (profNew_any s.lic _).mono ?_
  rintro e w7 ⟨u7, rfl, own7, hb7⟩
  obtain ⟨L7, cl7, rfl, _⟩ := zAt own7
  have T7 := Lib.hid (T4.out.step hb7)
  have XR7 := Lib.hid (XR4.out.step hb7)
  have hwo := T4.out.bel.size
  have RM7 := Lib.hid ((RD.out.bel hb7).lic own7 hwo (by have := newP_len9 s.lic; omega) (fun i y hi b hb => T4.out.profs.ltx hi hb))
  clear own7 hb7 k0 k1 k2 kf kl T4 XR4 XL4 RD
  have k4 := zAb T7.out.bx 4 rfl
  have kf := zAh T7.out.bx
  have kl := zAf T7.out.bx
  have bx8 := Lib.hid (zAq (i := 4) (v := .slice L7 (newP s.lic).length cl7) T7.out.bx)
  have RM8 := Lib.hid (RM7.out.box1 ⟨_, _, T7.out.bx⟩ 4 (.slice L7 (newP s.lic).length cl7)).1
  have XR8 := Lib.hid (XR7.out.far (b' := br) (by omega) (by omega) 4 (.slice L7 (newP s.lic).length cl7))
  go_upto_region 9 with fail
  clear k4 kf kl T7 XR7 RM7
  generalize w7.setCell ⟨br, 4, none⟩ (.slice L7 (newP s.lic).length cl7) = w8 at *
  have BX8 : Hid (w8.heap[br]? = some (.cells #[.slice A1 n c1, .slice B1 m d1, .slice U2 nu cu2, .slice Rp m cp, .slice L7 (newP s.lic).length cl7] 33 (0, 0))) := Lib.hid (by simpa using bx8.out)
  clear bx8
  have k0 := zAb BX8.out 0 rfl
  have k1 := zAb BX8.out 1 rfl
  have k2 := zAb BX8.out 2 rfl
  have k3 := zAb BX8.out 3 rfl
  have k4 := zAb BX8.out 4 rfl
  simp only [zgc, zga, zgb] at k0 k1 k2 k3 k4
  have r0 := zAb XR8.out.bx 0 rfl
  have r1 := zAb XR8.out.bx 1 rfl
  have r2 := zAb XR8.out.bx 2 rfl
  have r3 := zAb XR8.out.bx 3 rfl
  have r4 := zAb XR8.out.bx 4 rfl
  have rf := zAh XR8.out.bx
  have rl := zAf XR8.out.bx
  simp only [zgc, zga, zgb] at r0 r1 r2 r3 r4
  have XW : Hid (BX w (((((w8.setCell ⟨w.heap.size + 1 + 1, 0, none⟩ (.slice A1 n c1)).setCell ⟨w.heap.size + 1 + 1, 1, none⟩ (.slice B1 m d1)).setCell ⟨w.heap.size + 1 + 1, 2, none⟩ (.slice U2 nu cu2)).setCell ⟨w.heap.size + 1 + 1, 3, none⟩ (.slice Rp m cp)).setCell ⟨w.heap.size + 1 + 1, 4, none⟩ (.slice L7 (newP s.lic).length cl7)) (w.heap.size + 1 + 1) 33 [.slice A1 n c1, .slice B1 m d1, .slice U2 nu cu2, .slice Rp m cp, .slice L7 (newP s.lic).length cl7]) := Lib.hid (XR8.out.sets [.slice A1 n c1, .slice B1 m d1, .slice U2 nu cu2, .slice Rp m cp, .slice L7 (newP s.lic).length cl7] 0)
  have RMW := Lib.hid (RM8.out.box5 XR8.out.bx (.slice A1 n c1) (.slice B1 m d1) (.slice U2 nu cu2) (.slice Rp m cp) (.slice L7 (newP s.lic).length cl7))
  go_wp2
  generalize ((((w8.setCell ⟨w.heap.size + 1 + 1, 0, none⟩ (.slice A1 n c1)).setCell ⟨w.heap.size + 1 + 1, 1, none⟩ (.slice B1 m d1)).setCell ⟨w.heap.size + 1 + 1, 2, none⟩ (.slice U2 nu cu2)).setCell ⟨w.heap.size + 1 + 1, 3, none⟩ (.slice Rp m cp)).setCell ⟨w.heap.size + 1 + 1, 4, none⟩ (.slice L7 (newP s.lic).length cl7) = W at *
  have f0 := zAb XW.out.bx 0 rfl
  have f1 := zAb XW.out.bx 1 rfl
  have f2 := zAb XW.out.bx 2 rfl
  have f3 := zAb XW.out.bx 3 rfl
  have f4 := zAb XW.out.bx 4 rfl
  have ff := zAh XW.out.bx
  have fl := zAf XW.out.bx
  simp only [zgc, zga, zgb] at f0 f1 f2 f3 f4
  exact bodyPost_ret (v := .agg #[.slice A1 n c1, .slice B1 m d1, .slice U2 nu cu2, .slice Rp m cp, .slice L7 (newP s.lic).length cl7]) (by simp [results, Tryz.results102, go_sem, f0, f1, f2, f3, f4]) rfl ⟨⟨A1, B1, U2, Rp, L7, n, m, nu, m, (newP s.lic).length, c1, d1, cu2, cp, cl7⟩, xs, rfl, (by have h9 := RMW.out; rw [HR9.out] at h9; exact h9), XW.out.bel⟩
end Go.Proofs.YtnphjhbfpoekpaaGreat
