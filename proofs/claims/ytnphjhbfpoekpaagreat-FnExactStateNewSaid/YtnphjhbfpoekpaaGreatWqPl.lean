import Derived.Test.YtnphjhbfpoekpaaGreatWpPl
namespace Go.Proofs.YtnphjhbfpoekpaaGreat
set_option linter.unusedSimpArgs false
set_option linter.unusedVariables false
set_option linter.unnecessarySimpa false
open Go Go.RowKit
theorem wpList_append_lit {P : Program} {w : World} {ops : Array Oper} {rest : List Oper} {o : Oper} {a : Act} {Q : Exit → Act → World → Prop} (hgd : o.guard = none) (s x : Operand) (t : TypeId)
  (ho : o.op = .call { callee := .builtin .append, args := #[s, x], argTypes := #[t, t] })
  (base : Nat) (e : TypeId) (i : TypeInfo) (z : Value) (size bytes : Nat) (ht : P.underlying t = some (.slice e)) (hi : P.info? e = some i) (hz : i.zero = some z)
  (hsize : i.size = size) (hby : i.bytes = bytes) (hzs : z.cells.size = size) (hsz : 0 < size)
  (k : Nat) (hs : a.eval s = .slice (some ⟨k, 0, none⟩) 0 0) (hk : w.heap[k]? = some (.cells #[] e (0, 0))) (hbk : base ≤ k)
  (X : Option Addr) (m c : Nat) (news : List Value) (hx : a.eval x = .slice X m c) (hX : (X = none ∧ m = 0 ∧ c = 0) ∨ ∃ g, X = some ⟨g, 0, none⟩) (hrd : Rd w X m size news) (h1 : ∀ u ∈ news, u.oneCell' = true)
  (h63 : m ≤ maxLen) (hbytes : m * bytes ≤ 140737488355328) (hbase : base ≤ w.heap.size)
  (h : ∀ v' w', w'.ownsRow base e size v' m news → Below w.heap.size w w' → wpList P ops Q rest (a.put o.dst v') w') : wpList P ops Q (o :: rest) a w :=
 wpList_plain hgd fun _ hK => wp_append_lit s x t ho base e i z size bytes ht hi hz hsize hby hzs hsz k hs hk hbk X m c news hx hX hrd h1 h63 hbytes hbase fun v' w' h2 h3 => hK _ _ (h v' w' h2 h3)
structure CB (w w9 : World) (cs : List Value) : Prop where
 b0 : BX w w9 w.heap.size 77 cs
 b1 : BX w w9 (w.heap.size + 1) 77 [.slice none 0 0, .slice none 0 0, .slice none 0 0, .int .i64 0, .int .i64 0, .int .i64 0, .int .i64 0, .int .i64 0, .slice none 0 0, .slice none 0 0, .slice none 0 0]
theorem CB.step {w w9 w' : World} {cs : List Value} (h : CB w w9 cs) (hb : Below w9.heap.size w9 w') : CB w w' cs := ⟨h.b0.step hb, h.b1.step hb⟩
theorem nil_rd (w : World) (size : Nat) : Rd w none 0 size [] := ⟨by simp, fun h => absurd h (by omega)⟩
set_option maxHeartbeats 16000000 in
set_option maxRecDepth 20000 in
theorem sCopySt_nil (A B U : Option Addr) (n m nu c d cu : Nat) (s : St) (lo : Nat) (w : World) (h : StOwn w lo ⟨A, B, U, none, none, none, n, m, nu, 0, 0, 0, c, d, cu, 0, 0, 0⟩ s []) :
  Calls Tryz.prog 117 #[SA.v ⟨A, B, U, none, none, none, n, m, nu, 0, 0, 0, c, d, cu, 0, 0, 0⟩ s] w fun e w' => ∃ A9 B9 U9 K9 R9 E9 c9 d9 cu9 ck9 cr9 ce9, e = .returned (SA.v ⟨A9, B9, U9, K9, R9, E9, n, m, nu, 0, 0, 0, c9, d9, cu9, ck9, cr9, ce9⟩ s) ∧ StOwn w' w.heap.size ⟨A9, B9, U9, K9, R9, E9, n, m, nu, 0, 0, 0, c9, d9, cu9, ck9, cr9, ce9⟩ s [] ∧ Below w.heap.size w w' := by
 dsimp only [SA.v]
 have H := Lib.hid h
 have hn9 : n ≤ 1048576 := h.n
 have hmm9 : m ≤ 1048576 := h.m
 have hnu : nu ≤ 1048576 := h.nu
 have HQ0 : Hid (jflat s.queue = []) := Lib.hid (List.eq_nil_of_length_eq_zero (by have := h.queue.1; omega))
 have HE0 : Hid (eflat s.ends = []) := Lib.hid (List.eq_nil_of_length_eq_zero (by have := h.ends.1; omega))
 have HR0 : Hid (s.runs = []) := Lib.hid (List.eq_nil_of_length_eq_zero h.runs.len)
 clear h
 obtain ⟨iB, hiB, hzaB, hzbB, hzcB⟩ := info_parts infoB
 obtain ⟨iI, hiI, hzaI, hzbI, hzcI⟩ := info_parts infoI
 obtain ⟨iN, hiN, hzaN, hzbN, hzcN⟩ := info_parts infoNode
 obtain ⟨iJ, hiJ, hzaJ, hzbJ, hzcJ⟩ := info_parts infoJ
 obtain ⟨iE, hiE, hzaE, hzbE, hzcE⟩ := info_parts infoEn
 go_enter Tryz.func117, Tryz.ntmps117
 go_upto_region 1 with fail
 have BE : Below w.heap.size w ((w.alloc (.cells #[.slice A n c, .slice B m d, .slice U nu cu, .int .i64 s.lic.A, .int .i64 s.lic.B, .int .i64 s.lic.C, .int .i64 s.dep, .int .i64 s.now, .slice none 0 0, .slice none 0 0, .slice none 0 0] 77)).alloc (.cells #[.slice none 0 0, .slice none 0 0, .slice none 0 0, .int .i64 0, .int .i64 0, .int .i64 0, .int .i64 0, .int .i64 0, .slice none 0 0, .slice none 0 0, .slice none 0 0] 77)).drew := (zAc (zAc (Below.refl _ _) (zAa _ _)) (zAa _ _)).drew
 have HCB : CB w ((w.alloc (.cells #[.slice A n c, .slice B m d, .slice U nu cu, .int .i64 s.lic.A, .int .i64 s.lic.B, .int .i64 s.lic.C, .int .i64 s.dep, .int .i64 s.now, .slice none 0 0, .slice none 0 0, .slice none 0 0] 77)).alloc (.cells #[.slice none 0 0, .slice none 0 0, .slice none 0 0, .int .i64 0, .int .i64 0, .int .i64 0, .int .i64 0, .int .i64 0, .slice none 0 0, .slice none 0 0, .slice none 0 0] 77)).drew [.slice A n c, .slice B m d, .slice U nu cu, .int .i64 s.lic.A, .int .i64 s.lic.B, .int .i64 s.lic.C, .int .i64 s.dep, .int .i64 s.now, .slice none 0 0, .slice none 0 0, .slice none 0 0] := ⟨⟨bx_drew (zAu (zAk _ rfl) _), BE, Nat.le_refl _⟩, ⟨bx_drew (zAk _ (sz1 _ _)), BE, by omega⟩⟩
 clear BE
 refine wp_region_tail 11 (fun w9 => CB w w9 [.slice A n c, .slice B m d, .slice U nu cu, .int .i64 s.lic.A, .int .i64 s.lic.B, .int .i64 s.lic.C, .int .i64 s.dep, .int .i64 s.now, .slice none 0 0, .slice none 0 0, .slice none 0 0]) (fun a b => Below a.heap.size a b) (by kernel_rfl) (by kernel_rfl) HCB ?_
 clear HCB
 show Det _ _ _ _ _ _ (_ :: _ :: _ :: _ :: _ :: _ :: _ :: _ :: _ :: _ :: _ :: []) _ _
 refine Det.flo (fE w.heap.size 3) rfl rfl (fun _ _ _ h hb => fE_bel h hb) ?_ ?_
 ·intro f w9 K hJ hR hK
  clear hR
  have HK := Lib.hid hK
  have hlo := hJ.b0.bel.size
  clear hK
  go_simp
  exact HK.out _ _ (hJ.step (zAa _ _)) (zAa _ _) ⟨_, rfl, zAk _ rfl, hlo⟩
 (try simp only [putA, zgd, zgf, zge, zgg])
 refine Det.val ?_ rfl ?_ (fun _ => Below.refl _ _) ?_
 rotate_left
 ·intro f w9 hJ
  have e9 := hJ.b0.bx; have x0 := zAb e9 0 rfl; have xf := zAh e9; simp only [zgc, zga, zgb] at x0; clear e9
  go_simp
  with_reducible rfl
 (try simp only [putA, zgd, zgf, zge, zgg])
 refine Det.val ?_ rfl ?_ (fun _ => Below.refl _ _) ?_
 rotate_left
 ·intro f w9 hJ
  have e9 := hJ.b0.bx; have x0 := zAb e9 0 rfl; have xf := zAh e9; simp only [zgc, zga, zgb] at x0; clear e9
  go_simp
  with_reducible rfl
 (try simp only [putA, zgd, zgf, zge, zgg])
 refine Det.val ?_ rfl ?_ (fun _ => Below.refl _ _) ?_
 rotate_left
 ·intro f w9 hJ
  have e9 := hJ.b0.bx; have x0 := zAb e9 0 rfl; have xf := zAh e9; simp only [zgc, zga, zgb] at x0; clear e9
  go_simp
  with_reducible rfl
 (try simp only [putA, zgd, zgf, zge, zgg])
 refine Det.flo (fO w.heap.size 3 1 n (ints s.par)) rfl rfl (fun _ _ _ h hb => fO_bel h hb) ?_ ?_
 ·intro f w9 K hJ hR hK
  obtain ⟨k9, h9, hk9, hlk⟩ := hR (6, fE w.heap.size 3) (by simp [addF, dropF]) (by show (6 : Nat) ∈ _; decide)
  simp only [h9] at hK ⊢
  have HK := Lib.hid hK
  clear hK hR h9
  refine wp_append_lit _ _ 23 rfl w.heap.size 3 iI (.int .i64 0) 1 8 Tryz.underlying23 hiI hzaI hzbI hzcI rfl (by decide) k9 rfl hk9 hlk A n c (ints s.par) rfl H.out.rd.aA (H.out.rd.par.below H.out.rd.lA hJ.b0.bel) ints_one (by unfold maxLen; omega) (by omega) hJ.b0.bel.size ?_
  intro v' w' own9 hb9
  obtain ⟨X9, c9, rfl, -⟩ := zAt own9
  exact HK.out _ _ (hJ.step hb9) hb9 ⟨X9, c9, rfl, own9⟩
 (try simp only [putA, zgd, zgf, zge, zgg])
 refine Det.flo (fE w.heap.size 199) rfl rfl (fun _ _ _ h hb => fE_bel h hb) ?_ ?_
 ·intro f w9 K hJ hR hK
  clear hR
  have HK := Lib.hid hK
  have hlo := hJ.b0.bel.size
  clear hK
  go_simp
  exact HK.out _ _ (hJ.step (zAa _ _)) (zAa _ _) ⟨_, rfl, zAk _ rfl, hlo⟩
 (try simp only [putA, zgd, zgf, zge, zgg])
 refine Det.val ?_ rfl ?_ (fun _ => Below.refl _ _) ?_
 rotate_left
 ·intro f w9 hJ
  have e9 := hJ.b0.bx; have x1 := zAb e9 1 rfl; have xf := zAh e9; simp only [zgc, zga, zgb] at x1; clear e9
  go_simp
  with_reducible rfl
 (try simp only [putA, zgd, zgf, zge, zgg])
 refine Det.val ?_ rfl ?_ (fun _ => Below.refl _ _) ?_
 rotate_left
 ·intro f w9 hJ
  have e9 := hJ.b0.bx; have x1 := zAb e9 1 rfl; have xf := zAh e9; simp only [zgc, zga, zgb] at x1; clear e9
  go_simp
  with_reducible rfl
 (try simp only [putA, zgd, zgf, zge, zgg])
 refine Det.val ?_ rfl ?_ (fun _ => Below.refl _ _) ?_
 rotate_left
 ·intro f w9 hJ
  have e9 := hJ.b0.bx; have x1 := zAb e9 1 rfl; have xf := zAh e9; simp only [zgc, zga, zgb] at x1; clear e9
  go_simp
  with_reducible rfl
 (try simp only [putA, zgd, zgf, zge, zgg])
 refine Det.flo (fO w.heap.size 199 4 m (flat s.nodes)) rfl rfl (fun _ _ _ h hb => fO_bel h hb) ?_ ?_
 ·intro f w9 K hJ hR hK
  obtain ⟨k9, h9, hk9, hlk⟩ := hR (11, fE w.heap.size 199) (by simp [addF, dropF]) (by show (11 : Nat) ∈ _; decide)
  simp only [h9] at hK ⊢
  have HK := Lib.hid hK
  clear hK hR h9
  refine wp_append_lit _ _ 24 rfl w.heap.size 199 iN (.agg #[.int .i64 0, .int .i64 0, .int .i64 0, .int .i64 0]) 4 32 Tryz.underlying24 hiN hzaN hzbN hzcN rfl (by decide) k9 rfl hk9 hlk B m d (flat s.nodes) rfl H.out.rd.aB (H.out.rd.nodes.below H.out.rd.lB hJ.b0.bel) flat_one (by unfold maxLen; omega) (by omega) hJ.b0.bel.size ?_
  intro v' w' own9 hb9
  obtain ⟨X9, c9, rfl, -⟩ := zAt own9
  exact HK.out _ _ (hJ.step hb9) hb9 ⟨X9, c9, rfl, own9⟩
 (try simp only [putA, zgd, zgf, zge, zgg])
 refine Det.flo (fT w.heap.size n m s.empty) rfl rfl (fun _ _ _ h hb => fT_bel h hb) ?_ ?_
 ·intro f w9 K hJ hR hK
  obtain ⟨X9, c9, h9, o9⟩ := hR (10, fO w.heap.size 3 1 n (ints s.par)) (by simp [addF, dropF]) (by show (10 : Nat) ∈ _; decide)
  obtain ⟨Y9, d9, h12, o12⟩ := hR (15, fO w.heap.size 199 4 m (flat s.nodes)) (by simp [addF, dropF]) (by show (15 : Nat) ∈ _; decide)
  simp only [h9, h12] at hK ⊢
  have HK := Lib.hid hK
  clear hK hR h9 h12
  go_simp
  exact HK.out _ _ hJ (Below.refl _ _) ⟨X9, c9, Y9, d9, rfl, o9, o12⟩
 (try simp only [putA, zgd, zgf, zge, zgg])
 refine Det.nil ?_
 intro f w9 hJ hR
 obtain ⟨X3, c3, Y3, d3, h16, o10, o15⟩ := hR (16, fT w.heap.size n m s.empty) (by simp [addF, dropF])
 clear hR
 simp only [h16]
 clear h16
 have XP1 : Hid (BX w ((w9.setCell ⟨w.heap.size, 0, none⟩ (.slice X3 n c3)).setCell ⟨w.heap.size, 1, none⟩ (.slice Y3 m d3)) (w.heap.size) 77 [.slice X3 n c3, .slice Y3 m d3, .slice U nu cu, .int .i64 s.lic.A, .int .i64 s.lic.B, .int .i64 s.lic.C, .int .i64 s.dep, .int .i64 s.now, .slice none 0 0, .slice none 0 0, .slice none 0 0]) := Lib.hid (hJ.b0.sets [.slice X3 n c3, .slice Y3 m d3] 0)
 have XR1 : Hid (BX w ((w9.setCell ⟨w.heap.size, 0, none⟩ (.slice X3 n c3)).setCell ⟨w.heap.size, 1, none⟩ (.slice Y3 m d3)) (w.heap.size + 1) 77 [.slice none 0 0, .slice none 0 0, .slice none 0 0, .int .i64 0, .int .i64 0, .int .i64 0, .int .i64 0, .int .i64 0, .slice none 0 0, .slice none 0 0, .slice none 0 0]) := Lib.hid (hJ.b1.fars (b' := w.heap.size) (by omega) (Nat.le_refl _) [.slice X3 n c3, .slice Y3 m d3] 0)
 have OX1 : Hid (World.ownsRow ((w9.setCell ⟨w.heap.size, 0, none⟩ (.slice X3 n c3)).setCell ⟨w.heap.size, 1, none⟩ (.slice Y3 m d3)) w.heap.size 3 1 (.slice X3 n c3) n (ints s.par)) := Lib.hid (own_set2 o10 hJ.b0.bx (by decide) _ _)
 have OY1 : Hid (World.ownsRow ((w9.setCell ⟨w.heap.size, 0, none⟩ (.slice X3 n c3)).setCell ⟨w.heap.size, 1, none⟩ (.slice Y3 m d3)) w.heap.size 199 4 (.slice Y3 m d3) m (flat s.nodes)) := Lib.hid (own_set2 o15 hJ.b0.bx (by decide) _ _)
 have z0 := zAb hJ.b0.bx 0 rfl
 have z1 := zAb hJ.b0.bx 1 rfl
 have zf := zAh hJ.b0.bx
 have zl := zAf hJ.b0.bx
 simp only [zgc, zga, zgb] at z0 z1
 clear hJ o10 o15
 show wpList _ _ _ (_ :: _ :: []) _ _
 go_upto_region 2 with fail
 clear z0 z1 zf zl
 generalize (w9.setCell ⟨w.heap.size, 0, none⟩ (.slice X3 n c3)).setCell ⟨w.heap.size, 1, none⟩ (.slice Y3 m d3) = w1 at *
 have k2 := zAb XP1.out.bx 2 rfl
 have kf := zAh XP1.out.bx
 have kl := zAf XP1.out.bx
 simp only [zgc, zga, zgb] at k2
 go_wp2_with (at_builtin; refine wpList_append_lit rfl _ _ 27 rfl w.heap.size 4 iB (.bool false) 1 1 Tryz.underlying27 hiB hzaB hzbB hzcB rfl (by decide) w1.heap.size rfl (zAk _ rfl) XP1.out.bel.size U nu cu (bools s.up) rfl H.out.rd.aU (H.out.rd.up.below H.out.rd.lU (zAc XP1.out.bel (zAa _ _))) bools_one (by unfold maxLen; omega) (by omega) (Nat.le_trans XP1.out.bel.size (zAa w1 _).size) ?_)
 intro vU wv2 oU hb2
 obtain ⟨U9, cU9, rfl, _⟩ := zAt oU
 have LA2 := zAa w1 (.cells #[] 4)
 replace hb2 : Below (w1.alloc (.cells #[] 4)).heap.size (w1.alloc (.cells #[] 4)) wv2 := by simpa using hb2
 have XP2 := Lib.hid ((XP1.out.step LA2).step hb2)
 have XR2 := Lib.hid ((XR1.out.step LA2).step hb2)
 have OX2 := Lib.hid (zAe (zAe OX1.out LA2) hb2)
 have OY2 := Lib.hid (zAe (zAe OY1.out LA2) hb2)
 have OU2 := Lib.hid oU
 clear oU hb2 LA2 k2 kf kl XP1 XR1 OX1 OY1
 have k2 := zAb XP2.out.bx 2 rfl
 have kf := zAh XP2.out.bx
 have kl := zAf XP2.out.bx
 simp only [zgc, zga, zgb] at k2
 have XPs : Hid (BX w (wv2.setCell ⟨w.heap.size, 2, none⟩ (.slice U9 nu cU9)) (w.heap.size) 77 [.slice X3 n c3, .slice Y3 m d3, .slice U9 nu cU9, .int .i64 s.lic.A, .int .i64 s.lic.B, .int .i64 s.lic.C, .int .i64 s.dep, .int .i64 s.now, .slice none 0 0, .slice none 0 0, .slice none 0 0]) := Lib.hid (XP2.out.set 2 (.slice U9 nu cU9))
 have XRs : Hid (BX w (wv2.setCell ⟨w.heap.size, 2, none⟩ (.slice U9 nu cU9)) (w.heap.size + 1) 77 [.slice none 0 0, .slice none 0 0, .slice none 0 0, .int .i64 0, .int .i64 0, .int .i64 0, .int .i64 0, .int .i64 0, .slice none 0 0, .slice none 0 0, .slice none 0 0]) := Lib.hid (XR2.out.far (b' := w.heap.size) (by omega) (Nat.le_refl _) 2 (.slice U9 nu cU9))
 have OXs := Lib.hid (zAo OX2.out (zAm OX2.out XP2.out.bx (by decide)) (a := ⟨w.heap.size, 2, none⟩) (.slice U9 nu cU9))
 have OYs := Lib.hid (zAo OY2.out (zAm OY2.out XP2.out.bx (by decide)) (a := ⟨w.heap.size, 2, none⟩) (.slice U9 nu cU9))
 have OUs := Lib.hid (zAo OU2.out (zAm OU2.out XP2.out.bx (by decide)) (a := ⟨w.heap.size, 2, none⟩) (.slice U9 nu cU9))
 clear XP2 XR2 OX2 OY2 OU2
 go_upto_region 3 with fail
 clear k2 kf kl
 generalize wv2.setCell ⟨w.heap.size, 2, none⟩ (.slice U9 nu cU9) = w2 at *
 have XP2 := XPs
 have XR2 := XRs
 have OX2 := OXs
 have OY2 := OYs
 have OU2 := OUs
 clear XPs XRs OXs OYs OUs
 have k8 := zAb XP2.out.bx 8 rfl
 have kf := zAh XP2.out.bx
 have kl := zAf XP2.out.bx
 simp only [zgc, zga, zgb] at k8
 go_wp2_with (at_builtin; refine wpList_append_lit rfl _ _ 34 rfl w.heap.size 95 iJ (.agg #[.int .i64 0, .int .i64 0, .int .i64 0, .int .i64 0, .int .i64 0, .int .i64 0, .int .i64 0, .int .i64 0, .int .i64 0, .int .i64 0, .int .i64 0]) 11 88 Tryz.underlying34 hiJ hzaJ hzbJ hzcJ rfl (by decide) w2.heap.size rfl (zAk _ rfl) XP2.out.bel.size none 0 0 [] rfl (Or.inl ⟨rfl, rfl, rfl⟩) (nil_rd _ _) (by simp) (by unfold maxLen; omega) (by omega) (Nat.le_trans XP2.out.bel.size (zAa w2 _).size) ?_)
 intro vK wv3 oK hb3
 obtain ⟨K9, cK9, rfl, _⟩ := zAt oK
 have LA3 := zAa w2 (.cells #[] 95)
 replace hb3 : Below (w2.alloc (.cells #[] 95)).heap.size (w2.alloc (.cells #[] 95)) wv3 := by simpa using hb3
 have XP3 := Lib.hid ((XP2.out.step LA3).step hb3)
 have XR3 := Lib.hid ((XR2.out.step LA3).step hb3)
 have OX3 := Lib.hid (zAe (zAe OX2.out LA3) hb3)
 have OY3 := Lib.hid (zAe (zAe OY2.out LA3) hb3)
 have OU3 := Lib.hid (zAe (zAe OU2.out LA3) hb3)
 have OK3 := Lib.hid oK
 clear oK hb3 LA3 k8 kf kl XP2 XR2 OX2 OY2 OU2
 have k8 := zAb XP3.out.bx 8 rfl
 have kf := zAh XP3.out.bx
 have kl := zAf XP3.out.bx
 simp only [zgc, zga, zgb] at k8
 have XPs : Hid (BX w (wv3.setCell ⟨w.heap.size, 8, none⟩ (.slice K9 0 cK9)) (w.heap.size) 77 [.slice X3 n c3, .slice Y3 m d3, .slice U9 nu cU9, .int .i64 s.lic.A, .int .i64 s.lic.B, .int .i64 s.lic.C, .int .i64 s.dep, .int .i64 s.now, .slice K9 0 cK9, .slice none 0 0, .slice none 0 0]) := Lib.hid (XP3.out.set 8 (.slice K9 0 cK9))
 have XRs : Hid (BX w (wv3.setCell ⟨w.heap.size, 8, none⟩ (.slice K9 0 cK9)) (w.heap.size + 1) 77 [.slice none 0 0, .slice none 0 0, .slice none 0 0, .int .i64 0, .int .i64 0, .int .i64 0, .int .i64 0, .int .i64 0, .slice none 0 0, .slice none 0 0, .slice none 0 0]) := Lib.hid (XR3.out.far (b' := w.heap.size) (by omega) (Nat.le_refl _) 8 (.slice K9 0 cK9))
 have OXs := Lib.hid (zAo OX3.out (zAm OX3.out XP3.out.bx (by decide)) (a := ⟨w.heap.size, 8, none⟩) (.slice K9 0 cK9))
 have OYs := Lib.hid (zAo OY3.out (zAm OY3.out XP3.out.bx (by decide)) (a := ⟨w.heap.size, 8, none⟩) (.slice K9 0 cK9))
 have OUs := Lib.hid (zAo OU3.out (zAm OU3.out XP3.out.bx (by decide)) (a := ⟨w.heap.size, 8, none⟩) (.slice K9 0 cK9))
 have OKs := Lib.hid (zAo OK3.out (zAm OK3.out XP3.out.bx (by decide)) (a := ⟨w.heap.size, 8, none⟩) (.slice K9 0 cK9))
 clear XP3 XR3 OX3 OY3 OU3 OK3
 go_upto_region 4 with fail
 clear k8 kf kl
 generalize wv3.setCell ⟨w.heap.size, 8, none⟩ (.slice K9 0 cK9) = w3 at *
 have XP3 := XPs
 have XR3 := XRs
 have OX3 := OXs
 have OY3 := OYs
 have OU3 := OUs
 have OK3 := OKs
 clear XPs XRs OXs OYs OUs OKs
 have LA4 := zAa w3 (.cells #[] 136)
 have XP4 := Lib.hid (XP3.out.step LA4)
 have XR4 := Lib.hid (XR3.out.step LA4)
 have OR4 : Hid (World.ownsRow (w3.alloc (.cells #[] 136)) w.heap.size 136 13 (.slice (some ⟨w3.heap.size, 0, none⟩) 0 0) 0 []) := Lib.hid (own_lit (cs := []) (n := 0) (size := 13) (zAk _ rfl) rfl (Nat.zero_le _) XP3.out.bel.size)
 have OX4 := Lib.hid (zAe OX3.out LA4)
 have OY4 := Lib.hid (zAe OY3.out LA4)
 have OU4 := Lib.hid (zAe OU3.out LA4)
 have OK4 := Lib.hid (zAe OK3.out LA4)
 clear LA4 XP3 XR3 OX3 OY3 OU3 OK3
 go_upto_region 5 with fail
 obtain ⟨br, hbr⟩ : ∃ y, y = w3.heap.size := ⟨_, rfl⟩
 rw [← hbr] at OR4 ⊢
 clear hbr
 generalize w3.alloc (.cells #[] 136) = w4 at *
 have k9 := zAb XP4.out.bx 9 rfl
 have kf := zAh XP4.out.bx
 have kl := zAf XP4.out.bx
 simp only [zgc, zga, zgb] at k9
 go_wp2
 go_loop [3, 32] (fun a i => a = .slice (some ⟨br, 0, none⟩) 0 0 ∧ i = .int .i64 0) (fun _ _ => 0)
 case atStart => exact ⟨rfl, rfl⟩
 case round =>
 obtain ⟨rfl, rfl⟩ := hrel
 go_upto_region 11 with fail
 clear k9 kf kl
 have k9 := zAb XP4.out.bx 9 rfl
 have kf := zAh XP4.out.bx
 have kl := zAf XP4.out.bx
 simp only [zgc, zga, zgb] at k9
 have XPs : Hid (BX w (w4.setCell ⟨w.heap.size, 9, none⟩ (.slice (some ⟨br, 0, none⟩) 0 0)) (w.heap.size) 77 [.slice X3 n c3, .slice Y3 m d3, .slice U9 nu cU9, .int .i64 s.lic.A, .int .i64 s.lic.B, .int .i64 s.lic.C, .int .i64 s.dep, .int .i64 s.now, .slice K9 0 cK9, .slice (some ⟨br, 0, none⟩) 0 0, .slice none 0 0]) := Lib.hid (XP4.out.set 9 (.slice (some ⟨br, 0, none⟩) 0 0))
 have XRs : Hid (BX w (w4.setCell ⟨w.heap.size, 9, none⟩ (.slice (some ⟨br, 0, none⟩) 0 0)) (w.heap.size + 1) 77 [.slice none 0 0, .slice none 0 0, .slice none 0 0, .int .i64 0, .int .i64 0, .int .i64 0, .int .i64 0, .int .i64 0, .slice none 0 0, .slice none 0 0, .slice none 0 0]) := Lib.hid (XR4.out.far (b' := w.heap.size) (by omega) (Nat.le_refl _) 9 (.slice (some ⟨br, 0, none⟩) 0 0))
 have OXs := Lib.hid (zAo OX4.out (zAm OX4.out XP4.out.bx (by decide)) (a := ⟨w.heap.size, 9, none⟩) (.slice (some ⟨br, 0, none⟩) 0 0))
 have OYs := Lib.hid (zAo OY4.out (zAm OY4.out XP4.out.bx (by decide)) (a := ⟨w.heap.size, 9, none⟩) (.slice (some ⟨br, 0, none⟩) 0 0))
 have OUs := Lib.hid (zAo OU4.out (zAm OU4.out XP4.out.bx (by decide)) (a := ⟨w.heap.size, 9, none⟩) (.slice (some ⟨br, 0, none⟩) 0 0))
 have OKs := Lib.hid (zAo OK4.out (zAm OK4.out XP4.out.bx (by decide)) (a := ⟨w.heap.size, 9, none⟩) (.slice (some ⟨br, 0, none⟩) 0 0))
 have ORs := Lib.hid (zAo OR4.out (zAm OR4.out XP4.out.bx (by decide)) (a := ⟨w.heap.size, 9, none⟩) (.slice (some ⟨br, 0, none⟩) 0 0))
 clear XP4 XR4 OX4 OY4 OU4 OK4 OR4
 go_upto_region 12 with fail
 clear k9 kf kl
 generalize w4.setCell ⟨w.heap.size, 9, none⟩ (.slice (some ⟨br, 0, none⟩) 0 0) = w5 at *
 have XP5 := XPs
 have XR5 := XRs
 have OX5 := OXs
 have OY5 := OYs
 have OU5 := OUs
 have OK5 := OKs
 have OR5 := ORs
 clear XPs XRs OXs OYs OUs OKs ORs
 have k10 := zAb XP5.out.bx 10 rfl
 have kf := zAh XP5.out.bx
 have kl := zAf XP5.out.bx
 simp only [zgc, zga, zgb] at k10
 go_wp2_with (at_builtin; refine wpList_append_lit rfl _ _ 75 rfl w.heap.size 139 iE (.agg #[.int .i64 0, .int .i64 0, .int .i64 0]) 3 24 Tryz.underlying75 hiE hzaE hzbE hzcE rfl (by decide) w5.heap.size rfl (zAk _ rfl) XP5.out.bel.size none 0 0 [] rfl (Or.inl ⟨rfl, rfl, rfl⟩) (nil_rd _ _) (by simp) (by unfold maxLen; omega) (by omega) (Nat.le_trans XP5.out.bel.size (zAa w5 _).size) ?_)
 intro vE wv6 oE hb6
 obtain ⟨E9, cE9, rfl, _⟩ := zAt oE
 have LA6 := zAa w5 (.cells #[] 139)
 replace hb6 : Below (w5.alloc (.cells #[] 139)).heap.size (w5.alloc (.cells #[] 139)) wv6 := by simpa using hb6
 have XP6 := Lib.hid ((XP5.out.step LA6).step hb6)
 have XR6 := Lib.hid ((XR5.out.step LA6).step hb6)
 have OX6 := Lib.hid (zAe (zAe OX5.out LA6) hb6)
 have OY6 := Lib.hid (zAe (zAe OY5.out LA6) hb6)
 have OU6 := Lib.hid (zAe (zAe OU5.out LA6) hb6)
 have OK6 := Lib.hid (zAe (zAe OK5.out LA6) hb6)
 have OR6 := Lib.hid (zAe (zAe OR5.out LA6) hb6)
 have OE6 := Lib.hid oE
 clear oE hb6 LA6 k10 kf kl XP5 XR5 OX5 OY5 OU5 OK5 OR5
 have k10 := zAb XP6.out.bx 10 rfl
 have kf := zAh XP6.out.bx
 have kl := zAf XP6.out.bx
 simp only [zgc, zga, zgb] at k10
 have XPs : Hid (BX w (wv6.setCell ⟨w.heap.size, 10, none⟩ (.slice E9 0 cE9)) (w.heap.size) 77 [.slice X3 n c3, .slice Y3 m d3, .slice U9 nu cU9, .int .i64 s.lic.A, .int .i64 s.lic.B, .int .i64 s.lic.C, .int .i64 s.dep, .int .i64 s.now, .slice K9 0 cK9, .slice (some ⟨br, 0, none⟩) 0 0, .slice E9 0 cE9]) := Lib.hid (XP6.out.set 10 (.slice E9 0 cE9))
 have XRs : Hid (BX w (wv6.setCell ⟨w.heap.size, 10, none⟩ (.slice E9 0 cE9)) (w.heap.size + 1) 77 [.slice none 0 0, .slice none 0 0, .slice none 0 0, .int .i64 0, .int .i64 0, .int .i64 0, .int .i64 0, .int .i64 0, .slice none 0 0, .slice none 0 0, .slice none 0 0]) := Lib.hid (XR6.out.far (b' := w.heap.size) (by omega) (Nat.le_refl _) 10 (.slice E9 0 cE9))
 have OXs := Lib.hid (zAo OX6.out (zAm OX6.out XP6.out.bx (by decide)) (a := ⟨w.heap.size, 10, none⟩) (.slice E9 0 cE9))
 have OYs := Lib.hid (zAo OY6.out (zAm OY6.out XP6.out.bx (by decide)) (a := ⟨w.heap.size, 10, none⟩) (.slice E9 0 cE9))
 have OUs := Lib.hid (zAo OU6.out (zAm OU6.out XP6.out.bx (by decide)) (a := ⟨w.heap.size, 10, none⟩) (.slice E9 0 cE9))
 have OKs := Lib.hid (zAo OK6.out (zAm OK6.out XP6.out.bx (by decide)) (a := ⟨w.heap.size, 10, none⟩) (.slice E9 0 cE9))
 have ORs := Lib.hid (zAo OR6.out (zAm OR6.out XP6.out.bx (by decide)) (a := ⟨w.heap.size, 10, none⟩) (.slice E9 0 cE9))
 have OEs := Lib.hid (zAo OE6.out (zAm OE6.out XP6.out.bx (by decide)) (a := ⟨w.heap.size, 10, none⟩) (.slice E9 0 cE9))
 clear XP6 XR6 OX6 OY6 OU6 OK6 OR6 OE6
 go_upto_region 13 with fail
 clear k10 kf kl
 generalize wv6.setCell ⟨w.heap.size, 10, none⟩ (.slice E9 0 cE9) = w6 at *
 have XP6 := XPs
 have XR6 := XRs
 have OX6 := OXs
 have OY6 := OYs
 have OU6 := OUs
 have OK6 := OKs
 have OR6 := ORs
 have OE6 := OEs
 clear XPs XRs OXs OYs OUs OKs ORs OEs
 have k0 := zAb XP6.out.bx 0 rfl
 have k1 := zAb XP6.out.bx 1 rfl
 have k2 := zAb XP6.out.bx 2 rfl
 have k3 := zAb XP6.out.bx 3 rfl
 have k4 := zAb XP6.out.bx 4 rfl
 have k5 := zAb XP6.out.bx 5 rfl
 have k6 := zAb XP6.out.bx 6 rfl
 have k7 := zAb XP6.out.bx 7 rfl
 have k8 := zAb XP6.out.bx 8 rfl
 have k9 := zAb XP6.out.bx 9 rfl
 have k10 := zAb XP6.out.bx 10 rfl
 have kf := zAh XP6.out.bx
 have kl := zAf XP6.out.bx
 simp only [zgc, zga, zgb] at k0 k1 k2 k3 k4 k5 k6 k7 k8 k9 k10
 have r0 := zAb XR6.out.bx 0 rfl
 have r1 := zAb XR6.out.bx 1 rfl
 have r2 := zAb XR6.out.bx 2 rfl
 have r3 := zAb XR6.out.bx 3 rfl
 have r4 := zAb XR6.out.bx 4 rfl
 have r5 := zAb XR6.out.bx 5 rfl
 have r6 := zAb XR6.out.bx 6 rfl
 have r7 := zAb XR6.out.bx 7 rfl
 have r8 := zAb XR6.out.bx 8 rfl
 have r9 := zAb XR6.out.bx 9 rfl
 have r10 := zAb XR6.out.bx 10 rfl
 have rf := zAh XR6.out.bx
 have rl := zAf XR6.out.bx
 simp only [zgc, zga, zgb] at r0 r1 r2 r3 r4 r5 r6 r7 r8 r9 r10
 have XW : Hid (BX w (((((((((((w6.setCell ⟨w.heap.size + 1, 0, none⟩ (.slice X3 n c3)).setCell ⟨w.heap.size + 1, 1, none⟩ (.slice Y3 m d3)).setCell ⟨w.heap.size + 1, 2, none⟩ (.slice U9 nu cU9)).setCell ⟨w.heap.size + 1, 3, none⟩ (.int .i64 s.lic.A)).setCell ⟨w.heap.size + 1, 4, none⟩ (.int .i64 s.lic.B)).setCell ⟨w.heap.size + 1, 5, none⟩ (.int .i64 s.lic.C)).setCell ⟨w.heap.size + 1, 6, none⟩ (.int .i64 s.dep)).setCell ⟨w.heap.size + 1, 7, none⟩ (.int .i64 s.now)).setCell ⟨w.heap.size + 1, 8, none⟩ (.slice K9 0 cK9)).setCell ⟨w.heap.size + 1, 9, none⟩ (.slice (some ⟨br, 0, none⟩) 0 0)).setCell ⟨w.heap.size + 1, 10, none⟩ (.slice E9 0 cE9)) (w.heap.size + 1) 77 [.slice X3 n c3, .slice Y3 m d3, .slice U9 nu cU9, .int .i64 s.lic.A, .int .i64 s.lic.B, .int .i64 s.lic.C, .int .i64 s.dep, .int .i64 s.now, .slice K9 0 cK9, .slice (some ⟨br, 0, none⟩) 0 0, .slice E9 0 cE9]) := Lib.hid (XR6.out.set11 _ _ _ _ _ _ _ _ _ _ _)
 have OXW : Hid (World.ownsRow (((((((((((w6.setCell ⟨w.heap.size + 1, 0, none⟩ (.slice X3 n c3)).setCell ⟨w.heap.size + 1, 1, none⟩ (.slice Y3 m d3)).setCell ⟨w.heap.size + 1, 2, none⟩ (.slice U9 nu cU9)).setCell ⟨w.heap.size + 1, 3, none⟩ (.int .i64 s.lic.A)).setCell ⟨w.heap.size + 1, 4, none⟩ (.int .i64 s.lic.B)).setCell ⟨w.heap.size + 1, 5, none⟩ (.int .i64 s.lic.C)).setCell ⟨w.heap.size + 1, 6, none⟩ (.int .i64 s.dep)).setCell ⟨w.heap.size + 1, 7, none⟩ (.int .i64 s.now)).setCell ⟨w.heap.size + 1, 8, none⟩ (.slice K9 0 cK9)).setCell ⟨w.heap.size + 1, 9, none⟩ (.slice (some ⟨br, 0, none⟩) 0 0)).setCell ⟨w.heap.size + 1, 10, none⟩ (.slice E9 0 cE9)) _ _ _ _ _ _) := Lib.hid (own_set11 OX6.out XR6.out.bx (by decide) _ _ _ _ _ _ _ _ _ _ _)
 have OYW : Hid (World.ownsRow (((((((((((w6.setCell ⟨w.heap.size + 1, 0, none⟩ (.slice X3 n c3)).setCell ⟨w.heap.size + 1, 1, none⟩ (.slice Y3 m d3)).setCell ⟨w.heap.size + 1, 2, none⟩ (.slice U9 nu cU9)).setCell ⟨w.heap.size + 1, 3, none⟩ (.int .i64 s.lic.A)).setCell ⟨w.heap.size + 1, 4, none⟩ (.int .i64 s.lic.B)).setCell ⟨w.heap.size + 1, 5, none⟩ (.int .i64 s.lic.C)).setCell ⟨w.heap.size + 1, 6, none⟩ (.int .i64 s.dep)).setCell ⟨w.heap.size + 1, 7, none⟩ (.int .i64 s.now)).setCell ⟨w.heap.size + 1, 8, none⟩ (.slice K9 0 cK9)).setCell ⟨w.heap.size + 1, 9, none⟩ (.slice (some ⟨br, 0, none⟩) 0 0)).setCell ⟨w.heap.size + 1, 10, none⟩ (.slice E9 0 cE9)) _ _ _ _ _ _) := Lib.hid (own_set11 OY6.out XR6.out.bx (by decide) _ _ _ _ _ _ _ _ _ _ _)
 have OUW : Hid (World.ownsRow (((((((((((w6.setCell ⟨w.heap.size + 1, 0, none⟩ (.slice X3 n c3)).setCell ⟨w.heap.size + 1, 1, none⟩ (.slice Y3 m d3)).setCell ⟨w.heap.size + 1, 2, none⟩ (.slice U9 nu cU9)).setCell ⟨w.heap.size + 1, 3, none⟩ (.int .i64 s.lic.A)).setCell ⟨w.heap.size + 1, 4, none⟩ (.int .i64 s.lic.B)).setCell ⟨w.heap.size + 1, 5, none⟩ (.int .i64 s.lic.C)).setCell ⟨w.heap.size + 1, 6, none⟩ (.int .i64 s.dep)).setCell ⟨w.heap.size + 1, 7, none⟩ (.int .i64 s.now)).setCell ⟨w.heap.size + 1, 8, none⟩ (.slice K9 0 cK9)).setCell ⟨w.heap.size + 1, 9, none⟩ (.slice (some ⟨br, 0, none⟩) 0 0)).setCell ⟨w.heap.size + 1, 10, none⟩ (.slice E9 0 cE9)) _ _ _ _ _ _) := Lib.hid (own_set11 OU6.out XR6.out.bx (by decide) _ _ _ _ _ _ _ _ _ _ _)
 have OKW : Hid (World.ownsRow (((((((((((w6.setCell ⟨w.heap.size + 1, 0, none⟩ (.slice X3 n c3)).setCell ⟨w.heap.size + 1, 1, none⟩ (.slice Y3 m d3)).setCell ⟨w.heap.size + 1, 2, none⟩ (.slice U9 nu cU9)).setCell ⟨w.heap.size + 1, 3, none⟩ (.int .i64 s.lic.A)).setCell ⟨w.heap.size + 1, 4, none⟩ (.int .i64 s.lic.B)).setCell ⟨w.heap.size + 1, 5, none⟩ (.int .i64 s.lic.C)).setCell ⟨w.heap.size + 1, 6, none⟩ (.int .i64 s.dep)).setCell ⟨w.heap.size + 1, 7, none⟩ (.int .i64 s.now)).setCell ⟨w.heap.size + 1, 8, none⟩ (.slice K9 0 cK9)).setCell ⟨w.heap.size + 1, 9, none⟩ (.slice (some ⟨br, 0, none⟩) 0 0)).setCell ⟨w.heap.size + 1, 10, none⟩ (.slice E9 0 cE9)) _ _ _ _ _ _) := Lib.hid (own_set11 OK6.out XR6.out.bx (by decide) _ _ _ _ _ _ _ _ _ _ _)
 have ORW : Hid (World.ownsRow (((((((((((w6.setCell ⟨w.heap.size + 1, 0, none⟩ (.slice X3 n c3)).setCell ⟨w.heap.size + 1, 1, none⟩ (.slice Y3 m d3)).setCell ⟨w.heap.size + 1, 2, none⟩ (.slice U9 nu cU9)).setCell ⟨w.heap.size + 1, 3, none⟩ (.int .i64 s.lic.A)).setCell ⟨w.heap.size + 1, 4, none⟩ (.int .i64 s.lic.B)).setCell ⟨w.heap.size + 1, 5, none⟩ (.int .i64 s.lic.C)).setCell ⟨w.heap.size + 1, 6, none⟩ (.int .i64 s.dep)).setCell ⟨w.heap.size + 1, 7, none⟩ (.int .i64 s.now)).setCell ⟨w.heap.size + 1, 8, none⟩ (.slice K9 0 cK9)).setCell ⟨w.heap.size + 1, 9, none⟩ (.slice (some ⟨br, 0, none⟩) 0 0)).setCell ⟨w.heap.size + 1, 10, none⟩ (.slice E9 0 cE9)) _ _ _ _ _ _) := Lib.hid (own_set11 OR6.out XR6.out.bx (by decide) _ _ _ _ _ _ _ _ _ _ _)
 have OEW : Hid (World.ownsRow (((((((((((w6.setCell ⟨w.heap.size + 1, 0, none⟩ (.slice X3 n c3)).setCell ⟨w.heap.size + 1, 1, none⟩ (.slice Y3 m d3)).setCell ⟨w.heap.size + 1, 2, none⟩ (.slice U9 nu cU9)).setCell ⟨w.heap.size + 1, 3, none⟩ (.int .i64 s.lic.A)).setCell ⟨w.heap.size + 1, 4, none⟩ (.int .i64 s.lic.B)).setCell ⟨w.heap.size + 1, 5, none⟩ (.int .i64 s.lic.C)).setCell ⟨w.heap.size + 1, 6, none⟩ (.int .i64 s.dep)).setCell ⟨w.heap.size + 1, 7, none⟩ (.int .i64 s.now)).setCell ⟨w.heap.size + 1, 8, none⟩ (.slice K9 0 cK9)).setCell ⟨w.heap.size + 1, 9, none⟩ (.slice (some ⟨br, 0, none⟩) 0 0)).setCell ⟨w.heap.size + 1, 10, none⟩ (.slice E9 0 cE9)) _ _ _ _ _ _) := Lib.hid (own_set11 OE6.out XR6.out.bx (by decide) _ _ _ _ _ _ _ _ _ _ _)
 clear OX6 OY6 OU6 OK6 OR6 OE6
 go_wp2
 (try go_light)
 generalize ((((((((((w6.setCell ⟨w.heap.size + 1, 0, none⟩ (.slice X3 n c3)).setCell ⟨w.heap.size + 1, 1, none⟩ (.slice Y3 m d3)).setCell ⟨w.heap.size + 1, 2, none⟩ (.slice U9 nu cU9)).setCell ⟨w.heap.size + 1, 3, none⟩ (.int .i64 s.lic.A)).setCell ⟨w.heap.size + 1, 4, none⟩ (.int .i64 s.lic.B)).setCell ⟨w.heap.size + 1, 5, none⟩ (.int .i64 s.lic.C)).setCell ⟨w.heap.size + 1, 6, none⟩ (.int .i64 s.dep)).setCell ⟨w.heap.size + 1, 7, none⟩ (.int .i64 s.now)).setCell ⟨w.heap.size + 1, 8, none⟩ (.slice K9 0 cK9)).setCell ⟨w.heap.size + 1, 9, none⟩ (.slice (some ⟨br, 0, none⟩) 0 0)).setCell ⟨w.heap.size + 1, 10, none⟩ (.slice E9 0 cE9) = W at *
 have f0 := zAb XW.out.bx 0 rfl
 have f1 := zAb XW.out.bx 1 rfl
 have f2 := zAb XW.out.bx 2 rfl
 have f3 := zAb XW.out.bx 3 rfl
 have f4 := zAb XW.out.bx 4 rfl
 have f5 := zAb XW.out.bx 5 rfl
 have f6 := zAb XW.out.bx 6 rfl
 have f7 := zAb XW.out.bx 7 rfl
 have f8 := zAb XW.out.bx 8 rfl
 have f9 := zAb XW.out.bx 9 rfl
 have f10 := zAb XW.out.bx 10 rfl
 have ff := zAh XW.out.bx
 have fl := zAf XW.out.bx
 simp only [zgc, zga, zgb] at f0 f1 f2 f3 f4 f5 f6 f7 f8 f9 f10
 refine bodyPost_ret (v := .agg #[.slice X3 n c3, .slice Y3 m d3, .slice U9 nu cU9, .int .i64 s.lic.A, .int .i64 s.lic.B, .int .i64 s.lic.C, .int .i64 s.dep, .int .i64 s.now, .slice K9 0 cK9, .slice (some ⟨br, 0, none⟩) 0 0, .slice E9 0 cE9]) (by simp [results, Tryz.results117, go_sem, f0, f1, f2, f3, f4, f5, f6, f7, f8, f9, f10]) rfl ?_
 refine ⟨X3, Y3, U9, K9, some ⟨br, 0, none⟩, E9, c3, d3, cU9, cK9, 0, cE9, rfl, ⟨hn9, hmm9, hnu, Nat.zero_le _, Nat.zero_le _, Nat.zero_le _, Nat.zero_le _, OXW.out, OYW.out, OUW.out, by rw [HQ0.out]; exact OKW.out, ?_, by rw [HE0.out]; exact OEW.out, fun i x hx => by simp at hx⟩, XW.out.bel⟩
 rw [HR0.out]
 exact ⟨ORW.out, rfl, rfl, fun k x p h => by simp at h, fun i j x y _ h => by simp at h⟩
end Go.Proofs.YtnphjhbfpoekpaaGreat
