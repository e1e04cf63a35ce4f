import Derived.Test.YtnphjhbfpoekpaaGreatFdPl
namespace Go.Proofs.YtnphjhbfpoekpaaGreat
set_option linter.unusedSimpArgs false
set_option linter.unusedVariables false
set_option linter.unnecessarySimpa false
open Go Go.RowKit
theorem run_append_lit {P : Program} {w : World} (t ty : TypeId) (base : Nat) (e : TypeId) (i : TypeInfo) (z : Value) (size bytes : Nat) (ht : P.underlying t = some (.slice e)) (hi : P.info? e = some i) (hz : i.zero = some z)
  (hsize : i.size = size) (hby : i.bytes = bytes) (hzs : z.cells.size = size) (hsz : 0 < size)
  (k : Nat) (hk : w.heap[k]? = some (.cells #[] e (0, 0))) (hbk : base ≤ k)
  (X : Option Addr) (m c : Nat) (news : List Value) (hX : (X = none ∧ m = 0 ∧ c = 0) ∨ ∃ g, X = some ⟨g, 0, none⟩) (hrd : Rd w X m size news) (h1 : ∀ u ∈ news, u.oneCell' = true)
  (h63 : m ≤ maxLen) (hbytes : m * bytes ≤ 140737488355328) (hbase : base ≤ w.heap.size) :
  ∃ v' w', (Builtin.append_ #[t, t] ty #[.slice (some ⟨k, 0, none⟩) 0 0, .slice X m c]).run P w = .ok v' w' ∧ w'.ownsRow base e size v' m news ∧ Below w.heap.size w w' := by
 have own0 : w.ownsRow base e size (.slice (some ⟨k, 0, none⟩) 0 0) 0 [] := ⟨by simp, Or.inr ⟨k, 0, #[], rfl, hbk, hk, Nat.le_refl _, Nat.zero_le _, by simp, by simp⟩⟩
 rcases hX with ⟨rfl, rfl, rfl⟩ | ⟨g, rfl⟩
 ·have hn : news = [] := List.eq_nil_of_length_eq_zero (by have := hrd.1; omega)
  subst hn
  exact ⟨_, w, run_append_owned_none (P := P) w base t ty e i size ht hi _ 0 [] own0, own0, Below.refl _ _⟩
 ·have hnews : ∀ j u, news[j]? = some u → w.cell? ((⟨g, 0, none⟩ : Addr).add j) = some u := by
   intro j u hj
   have hjn : j < news.length := (List.getElem?_eq_some_iff.1 hj).1
   have hm : 0 < m := by
    rcases Nat.eq_zero_or_pos m with h | h
    ·subst h; have := hrd.1; omega
    ·exact h
   obtain ⟨g', hg', hc⟩ := hrd.2 hm
   cases hg'
   have e9 : (⟨g, 0, none⟩ : Addr).add j = ⟨g, j, none⟩ := by unfold Addr.add; by_cases h : j = 0 <;> simp [h]
   rw [e9]
   exact hc j u hj
  rcases Nat.eq_zero_or_pos m with h | h
  ·subst h
   have hn : news = [] := List.eq_nil_of_length_eq_zero (by have := hrd.1; omega)
   subst hn
   subst hsize
   have hr := run_append_room_cells (P := P) w t ty e i ht hi k 0 0 0 ⟨g, 0, none⟩ 0 c [] (by simp) (by simp) (by simp) (Nat.le_refl _) (by simp) (by simp)
   refine ⟨_, _, hr, ?_, ?_⟩
   ·simpa [World.setCells] using own0
   ·simpa [World.setCells] using Below.refl w.heap.size w
  ·obtain ⟨v', w', hr, ho, hg⟩ := run_append_arg_grows (P := P) w t ty e i z size bytes ht hi hz hsize hby hzs hsz ⟨k, 0, none⟩ 0 0 [] (by simp) (by simp) ⟨g, 0, none⟩ m c news hrd.1 hnews (by omega) (by omega) (by simpa using hbytes)
   exact ⟨v', w', hr, zAn (by simpa using ho) hbase, Below.grown (Below.refl _ _) hg (Nat.le_refl _) (fun k hk => by cases hk)⟩
theorem wp_append_lit {P : Program} {w : World} {o : Oper} {a : Act} {K : Act → World → Prop} {Q : Exit → Act → World → Prop} (s x : Operand) (t : TypeId)
  (ho : o.op = .call { callee := .builtin .append, args := #[s, x], argTypes := #[t, t] })
  (base : Nat) (e : TypeId) (i : TypeInfo) (z : Value) (size bytes : Nat) (ht : P.underlying t = some (.slice e)) (hi : P.info? e = some i) (hz : i.zero = some z)
  (hsize : i.size = size) (hby : i.bytes = bytes) (hzs : z.cells.size = size) (hsz : 0 < size)
  (k : Nat) (hs : a.eval s = .slice (some ⟨k, 0, none⟩) 0 0) (hk : w.heap[k]? = some (.cells #[] e (0, 0))) (hbk : base ≤ k)
  (X : Option Addr) (m c : Nat) (news : List Value) (hx : a.eval x = .slice X m c) (hX : (X = none ∧ m = 0 ∧ c = 0) ∨ ∃ g, X = some ⟨g, 0, none⟩) (hrd : Rd w X m size news) (h1 : ∀ u ∈ news, u.oneCell' = true)
  (h63 : m ≤ maxLen) (hbytes : m * bytes ≤ 140737488355328) (hbase : base ≤ w.heap.size)
  (h : ∀ v' w', w'.ownsRow base e size v' m news → Below w.heap.size w w' → K (a.put o.dst v') w') : o.wp P a w K Q := by
 obtain ⟨v', w', hr, h2, h3⟩ := run_append_lit (P := P) (w := w) t o.type base e i z size bytes ht hi hz hsize hby hzs hsz k hk hbk X m c news hX hrd h1 h63 hbytes hbase
 unfold Oper.wp execOp
 simp only [ho, resolve, invoke, builtin, Sem.run_bind, Sem.run_pure, Result.andThen_ok, List.map_toArray, List.map_cons, List.map_nil, hs, hx, hr]
 exact h v' w' h2 h3
def fE (lo : Nat) (e : TypeId) : Value → World → Prop := fun u w => ∃ k, u = .slice (some ⟨k, 0, none⟩) 0 0 ∧ w.heap[k]? = some (.cells #[] e (0, 0)) ∧ lo ≤ k
theorem fE_bel {lo : Nat} {e : TypeId} {u : Value} {w w' : World} (h : fE lo e u w) (hb : Below w.heap.size w w') : fE lo e u w' := by
 obtain ⟨k, h1, h2, h3⟩ := h
 exact ⟨k, h1, zAg h2 hb, h3⟩
def fO (lo : Nat) (e : TypeId) (size n : Nat) (xs : List Value) : Value → World → Prop := fun u w => ∃ (X : Option Addr) (c : Nat), u = .slice X n c ∧ w.ownsRow lo e size (.slice X n c) n xs
theorem fO_bel {lo : Nat} {e : TypeId} {size n : Nat} {xs : List Value} {u : Value} {w w' : World} (h : fO lo e size n xs u w) (hb : Below w.heap.size w w') : fO lo e size n xs u w' := by
 obtain ⟨X, c, h1, h2⟩ := h
 exact ⟨X, c, h1, zAe h2 hb⟩
def fB (lo : Nat) (vs : Array Value) (t : TypeId) : Value → World → Prop := fun u w => ∃ b, u = .pointer (some ⟨b, 0, none⟩) ∧ w.heap[b]? = some (.cells vs t (0, 0)) ∧ lo ≤ b
theorem fB_bel {lo : Nat} {vs : Array Value} {t : TypeId} {u : Value} {w w' : World} (h : fB lo vs t u w) (hb : Below w.heap.size w w') : fB lo vs t u w' := by
 obtain ⟨k, h1, h2, h3⟩ := h
 exact ⟨k, h1, zAg h2 hb, h3⟩
def fUL (lo nu nl : Nat) (r : Rm) : Value → World → Prop := fun u w => ∃ (X : Option Addr) (c : Nat) (Y : Option Addr) (d : Nat), u = .agg #[.slice none 0 0, .slice none 0 0, .slice X nu c, .slice none 0 0, .slice Y nl d] ∧ w.ownsRow lo 4 1 (.slice X nu c) nu (bools r.up) ∧ w.ownsRow lo 177 4 (.slice Y nl d) nl (flat r.lics)
theorem fUL_bel {lo nu nl : Nat} {r : Rm} {u : Value} {w w' : World} (h : fUL lo nu nl r u w) (hb : Below w.heap.size w w') : fUL lo nu nl r u w' := by
 obtain ⟨X, c, Y, d, h1, h2, h3⟩ := h
 exact ⟨X, c, Y, d, h1, zAe h2 hb, zAe h3 hb⟩
def fT (lo n m : Nat) (r : Rm) : Value → World → Prop := fun u w => ∃ (X : Option Addr) (c : Nat) (Y : Option Addr) (d : Nat), u = .agg #[.slice X n c, .slice Y m d] ∧ w.ownsRow lo 3 1 (.slice X n c) n (ints r.par) ∧ w.ownsRow lo 199 4 (.slice Y m d) m (flat r.nodes)
theorem fT_bel {lo n m : Nat} {r : Rm} {u : Value} {w w' : World} (h : fT lo n m r u w) (hb : Below w.heap.size w w') : fT lo n m r u w' := by
 obtain ⟨X, c, Y, d, h1, h2, h3⟩ := h
 exact ⟨X, c, Y, d, h1, zAe h2 hb, zAe h3 hb⟩
def zR : Array Value := #[.slice none 0 0, .slice none 0 0, .slice none 0 0, .slice none 0 0, .slice none 0 0]
structure TB (w w9 : World) (a : RA) : Prop where
 b0 : w9.heap[w.heap.size]? = some (.cells #[.slice a.A a.n a.c, .slice a.B a.m a.d, .slice a.U a.nu a.cu, .slice a.R a.np a.cp, .slice a.L a.nl a.cl] 33 (0, 0))
 b1 : w9.heap[w.heap.size + 1]? = some (.cells #[.slice none 0 0, .slice none 0 0, .slice none 0 0, .slice none 0 0, .slice none 0 0] 33 (0, 0))
 bel : Below w.heap.size w w9
theorem TB.step {w w9 w' : World} {a : RA} (h : TB w w9 a) (hb : Below w9.heap.size w9 w') : TB w w' a := ⟨zAg h.b0 hb, zAg h.b1 hb, zAc h.bel hb⟩
structure TS (w w9 : World) (a : RA) (b : Nat) (r : Rm) (X : Option Addr) (c : Nat) (Y : Option Addr) (d : Nat) : Prop where
 tb : TB w w9 a
 bx : w9.heap[b]? = some (.cells #[.slice none 0 0, .slice none 0 0, .slice X a.nu c, .slice none 0 0, .slice Y a.nl d] 33 (0, 0))
 up : w9.ownsRow w.heap.size 4 1 (.slice X a.nu c) a.nu (bools r.up)
 lics : w9.ownsRow w.heap.size 177 4 (.slice Y a.nl d) a.nl (flat r.lics)
 hb : w.heap.size + 1 < b
theorem TS.step {w w9 w' : World} {a : RA} {b : Nat} {r : Rm} {X : Option Addr} {c : Nat} {Y : Option Addr} {d : Nat} (h : TS w w9 a b r X c Y d) (hb : Below w9.heap.size w9 w') : TS w w' a b r X c Y d :=
 ⟨h.tb.step hb, zAg h.bx hb, zAe h.up hb, zAe h.lics hb, h.hb⟩
theorem own_set2 {w : World} {lo : Nat} {e : TypeId} {size : Nat} {v : Value} {n : Nat} {xs : List Value} {b : Nat} {vs : Array Value} {t : TypeId} {f : Nat × Nat} (h : w.ownsRow lo e size v n xs) (hb : w.heap[b]? = some (.cells vs t f)) (he : e ≠ t) (v0 v1 : Value) :
  ((w.setCell ⟨b, 0, none⟩ v0).setCell ⟨b, 1, none⟩ v1).ownsRow lo e size v n xs := zAo (zAo h (zAm h hb he) _) (zAm h hb he) _
theorem set5' {w : World} {b : Nat} {v0 v1 v2 v3 v4 : Value} {t : TypeId} {f : Nat × Nat} (h : w.heap[b]? = some (.cells zR t f)) :
  (((((w.setCell ⟨b, 0, none⟩ v0).setCell ⟨b, 1, none⟩ v1).setCell ⟨b, 2, none⟩ v2).setCell ⟨b, 3, none⟩ v3).setCell ⟨b, 4, none⟩ v4).heap[b]? = some (.cells #[v0, v1, v2, v3, v4] t f) := set5 h
set_option maxHeartbeats 16000000 in
set_option maxRecDepth 20000 in
theorem sCopy_any (a : RA) (r : Rm) (xs : List Value) (lo : Nat) (w : World) (h : RoomOwn w lo a r xs) :
  Calls Tryz.prog 150 #[a.v] w fun e w' => ∃ a' xs', e = .returned (RA.v a') ∧ RoomOwn w' w.heap.size a' r xs' ∧ Below w.heap.size w w' := by
 obtain ⟨l1, l2, l3, l4, l5⟩ := h.rd.lens
 obtain ⟨A, B, U, R, L, n, m, nu, np, nl, c, d, cu, cp, cl⟩ := a
 dsimp only [RA.v]
 dsimp only at *
 have L4 := Lib.hid l4
 have H := Lib.hid h
 have hnp : np ≤ 1048576 := h.np
 have hm9 : np ≤ 9223372036854775807 := by omega
 have hnu : nu ≤ 1048576 := h.nu
 have hunl : nu ≤ 9223372036854775807 := by omega
 have hn9 : n ≤ 1048576 := h.n
 have hmm9 : m ≤ 1048576 := h.m
 clear h l1 l2 l3 l4 l5
 obtain ⟨iB, hiB, hzaB, hzbB, hzcB⟩ := info_parts infoB
 obtain ⟨iI, hiI, hzaI, hzbI, hzcI⟩ := info_parts infoI
 obtain ⟨iN, hiN, hzaN, hzbN, hzcN⟩ := info_parts infoNode
 obtain ⟨iP, hiP, hzaP, hzbP, hzcP⟩ := info_parts infoProf
 go_enter Tryz.func150, Tryz.ntmps150
 go_upto_region 1 with fail
 have HTB : TB w ((w.alloc (.cells #[.slice A n c, .slice B m d, .slice U nu cu, .slice R np cp, .slice L nl cl] 33)).alloc (.cells #[.slice none 0 0, .slice none 0 0, .slice none 0 0, .slice none 0 0, .slice none 0 0] 33)).drew ⟨A, B, U, R, L, n, m, nu, np, nl, c, d, cu, cp, cl⟩ :=
  ⟨bx_drew (zAu (zAk _ rfl) _), bx_drew (zAk _ (sz1 _ _)), (zAc (zAc (Below.refl _ _) (zAa _ _)) (zAa _ _)).drew⟩
 refine wp_region_tail 9 (fun w9 => TB w w9 ⟨A, B, U, R, L, n, m, nu, np, nl, c, d, cu, cp, cl⟩) (fun a b => Below a.heap.size a b) (by kernel_rfl) (by kernel_rfl) HTB ?_
 show Det _ _ _ _ _ _ (_ :: _ :: _ :: _ :: _ :: _ :: _ :: _ :: _ :: []) _ _
 refine Det.flo (fE w.heap.size 4) rfl rfl (fun _ _ _ h hb => fE_bel h hb) ?_ ?_
 ·intro f w9 K hJ hR hK
  clear hR
  have HK := Lib.hid hK
  have hlo := hJ.bel.size
  clear hK
  go_simp
  exact HK.out _ _ (hJ.step (zAa _ _)) (zAa _ _) ⟨_, rfl, zAk _ rfl, hlo⟩
 (try simp only [putA, zgd, zgf, zge, zgg])
 refine Det.val ?_ rfl ?_ (fun _ => Below.refl _ _) ?_
 rotate_left
 ·intro f w9 hJ
  have e9 := hJ.b0; have x2 := zAb e9 2 rfl; have xf := zAh e9; simp only [zgc, zga, zgb] at x2; clear e9
  go_simp
  with_reducible rfl
 (try simp only [putA, zgd, zgf, zge, zgg])
 refine Det.val ?_ rfl ?_ (fun _ => Below.refl _ _) ?_
 rotate_left
 ·intro f w9 hJ
  have e9 := hJ.b0; have x2 := zAb e9 2 rfl; have xf := zAh e9; simp only [zgc, zga, zgb] at x2; clear e9
  go_simp
  with_reducible rfl
 (try simp only [putA, zgd, zgf, zge, zgg])
 refine Det.flo (fO w.heap.size 4 1 nu (bools r.up)) rfl rfl (fun _ _ _ h hb => fO_bel h hb) ?_ ?_
 ·intro f w9 K hJ hR hK
  obtain ⟨k9, h9, hk9, hlk⟩ := hR (6, fE w.heap.size 4) (by simp [addF, dropF]) (by show (6 : Nat) ∈ _; decide)
  simp only [h9] at hK ⊢
  have HK := Lib.hid hK
  clear hK hR h9
  refine wp_append_lit _ _ 27 rfl w.heap.size 4 iB (.bool false) 1 1 Tryz.underlying27 hiB hzaB hzbB hzcB rfl (by decide) k9 rfl hk9 hlk U nu cu (bools r.up) rfl (own_addr H.out.up) (H.out.rd.up.below H.out.rd.ltU hJ.bel) bools_one (by unfold maxLen; omega) (by omega) hJ.bel.size ?_
  intro v' w' own9 hb9
  obtain ⟨X9, c9, rfl, -⟩ := zAt own9
  exact HK.out _ _ (hJ.step hb9) hb9 ⟨X9, c9, rfl, own9⟩
 (try simp only [putA, zgd, zgf, zge, zgg])
 refine Det.val ?_ rfl ?_ (fun _ => Below.refl _ _) ?_
 rotate_left
 ·intro f w9 hJ
  have e9 := hJ.b0; have x4 := zAb e9 4 rfl; have xf := zAh e9; simp only [zgc, zga, zgb] at x4; clear e9
  go_simp
  with_reducible rfl
 (try simp only [putA, zgd, zgf, zge, zgg])
 refine Det.val ?_ rfl ?_ (fun _ => Below.refl _ _) ?_
 rotate_left
 ·intro f w9 hJ
  have e9 := hJ.b0; have x4 := zAb e9 4 rfl; have xf := zAh e9; simp only [zgc, zga, zgb] at x4; clear e9
  go_simp
  with_reducible rfl
 (try simp only [putA, zgd, zgf, zge, zgg])
 refine Det.flo (rP3 w.heap.size r.lics) rfl rfl (fun _ _ _ h hb => rP3_bel h hb) ?_ ?_
 ·intro f w9 K hJ hR hK
  have HK := Lib.hid hK
  clear hK hR
  go_simp
  go_at_call 207
  refine (sProf_any L nl cl r.lics _ H.out.nl (own_addr H.out.lics) (H.out.rd.lics.below H.out.rd.ltL hJ.bel) (zAi H.out.rd.ltL hJ.bel)).mono ?_
  rintro e w13 ⟨v13, rfl, own13, hb13⟩
  obtain ⟨X13, c13, rfl, -⟩ := zAt own13
  have hll : r.lics.length = nl := (H.out.rd.lens).2.2.2.2
  subst hll
  exact HK.out _ _ (hJ.step hb13) hb13 ⟨X13, c13, rfl, zAn own13 hJ.bel.size⟩
 (try simp only [putA, zgd, zgf, zge, zgg])
 refine Det.flo (fUL w.heap.size nu nl r) rfl rfl (fun _ _ _ h hb => fUL_bel h hb) ?_ ?_
 ·intro f w9 K hJ hR hK
  obtain ⟨X9, c9, h9, o9⟩ := hR (9, fO w.heap.size 4 1 nu (bools r.up)) (by simp [addF, dropF]) (by show (9 : Nat) ∈ _; decide)
  obtain ⟨Y9, d9, h12, o12⟩ := hR (12, rP3 w.heap.size r.lics) (by simp [addF, dropF]) (by show (12 : Nat) ∈ _; decide)
  have hll : r.lics.length = nl := (H.out.rd.lens).2.2.2.2
  rw [hll] at h12 o12
  simp only [h9, h12] at hK ⊢
  have HK := Lib.hid hK
  clear hK hR h9 h12
  go_simp
  exact HK.out _ _ hJ (Below.refl _ _) ⟨X9, c9, Y9, d9, rfl, o9, o12⟩
 (try simp only [putA, zgd, zgf, zge, zgg])
 refine Det.flo (fB (w.heap.size + 2) zR 33) rfl rfl (fun _ _ _ h hb => fB_bel h hb) ?_ ?_
 ·intro f w9 K hJ hR hK
  clear hR
  have HK := Lib.hid hK
  have hlo := zAf hJ.b1
  clear hK
  go_simp
  exact HK.out _ _ (hJ.step (zAa _ _)) (zAa _ _) ⟨_, rfl, zAk _ rfl, by omega⟩
 (try simp only [putA, zgd, zgf, zge, zgg])
 refine Det.nil ?_
 intro f w9 hJ hR
 obtain ⟨X5, c5, X8, c8, h13, o9, o12⟩ := hR (13, fUL w.heap.size nu nl r) (by simp [addF, dropF])
 obtain ⟨bt, h3, hbz, hlo⟩ := hR (3, fB (w.heap.size + 2) zR 33) (by simp [addF, dropF])
 clear hR
 simp only [h13, h3]
 clear h13 h3
 have hle : w.heap.size ≤ bt := by omega
 have S1 : Hid (TS w (((((w9.setCell ⟨bt, 0, none⟩ (.slice none 0 0)).setCell ⟨bt, 1, none⟩ (.slice none 0 0)).setCell ⟨bt, 2, none⟩ (.slice X5 nu c5)).setCell ⟨bt, 3, none⟩ (.slice none 0 0)).setCell ⟨bt, 4, none⟩ (.slice X8 nl c8)) ⟨A, B, U, R, L, n, m, nu, np, nl, c, d, cu, cp, cl⟩ bt r X5 c5 X8 c8) := Lib.hid
  ⟨⟨bx_set5 hJ.b0 (by omega) _ _ _ _ _, bx_set5 hJ.b1 (by omega) _ _ _ _ _, bel_set5 hJ.bel hle _ _ _ _ _⟩, set5' hbz, own_set5 o9 hbz (by decide) _ _ _ _ _, own_set5 o12 hbz (by decide) _ _ _ _ _, by omega⟩
 have zc : ∀ o v, zR[o]? = some v → w9.cell? ⟨bt, o, none⟩ = some v := fun o v hv => zAb hbz o hv
 have z0 := zc 0 _ rfl
 have z1 := zc 1 _ rfl
 have z2 := zc 2 _ rfl
 have z3 := zc 3 _ rfl
 have z4 := zc 4 _ rfl
 have zf := zAh hbz
 have zl := zAf hbz
 clear zc hJ o9 o12 hbz
 show wpList _ _ _ (_ :: []) _ _
 go_upto_region 2 with fail
 clear z0 z1 z2 z3 z4 zf zl
 generalize (((((w9.setCell ⟨bt, 0, none⟩ (.slice none 0 0)).setCell ⟨bt, 1, none⟩ (.slice none 0 0)).setCell ⟨bt, 2, none⟩ (.slice X5 nu c5)).setCell ⟨bt, 3, none⟩ (.slice none 0 0)).setCell ⟨bt, 4, none⟩ (.slice X8 nl c8)) = w10 at *
 refine wp_region_tail 11 (fun w9 => TS w w9 ⟨A, B, U, R, L, n, m, nu, np, nl, c, d, cu, cp, cl⟩ bt r X5 c5 X8 c8) (fun a b => Below a.heap.size a b) (by kernel_rfl) (by kernel_rfl) (S1.out.step (zAd w10 1)) ?_
 show Det _ _ _ _ _ _ (_ :: _ :: _ :: _ :: _ :: _ :: _ :: _ :: _ :: _ :: _ :: []) _ _
 refine Det.flo (fE w.heap.size 3) rfl rfl (fun _ _ _ h hb => fE_bel h hb) ?_ ?_
 ·intro f w9 K hJ hR hK
  clear hR
  have HK := Lib.hid hK
  have hlo := hJ.tb.bel.size
  clear hK
  go_simp
  exact HK.out _ _ (hJ.step (zAa _ _)) (zAa _ _) ⟨_, rfl, zAk _ rfl, hlo⟩
 (try simp only [putA, zgd, zgf, zge, zgg])
 refine Det.val ?_ rfl ?_ (fun _ => Below.refl _ _) ?_
 rotate_left
 ·intro f w9 hJ
  have e9 := hJ.tb.b0; have x0 := zAb e9 0 rfl; have xf := zAh e9; simp only [zgc, zga, zgb] at x0; clear e9
  go_simp
  with_reducible rfl
 (try simp only [putA, zgd, zgf, zge, zgg])
 refine Det.val ?_ rfl ?_ (fun _ => Below.refl _ _) ?_
 rotate_left
 ·intro f w9 hJ
  have e9 := hJ.tb.b0; have x0 := zAb e9 0 rfl; have xf := zAh e9; simp only [zgc, zga, zgb] at x0; clear e9
  go_simp
  with_reducible rfl
 (try simp only [putA, zgd, zgf, zge, zgg])
 refine Det.val ?_ rfl ?_ (fun _ => Below.refl _ _) ?_
 rotate_left
 ·intro f w9 hJ
  have e9 := hJ.tb.b0; have x0 := zAb e9 0 rfl; have xf := zAh e9; simp only [zgc, zga, zgb] at x0; clear e9
  go_simp
  with_reducible rfl
 (try simp only [putA, zgd, zgf, zge, zgg])
 refine Det.flo (fO w.heap.size 3 1 n (ints r.par)) rfl rfl (fun _ _ _ h hb => fO_bel h hb) ?_ ?_
 ·intro f w9 K hJ hR hK
  obtain ⟨k9, h9, hk9, hlk⟩ := hR (14, fE w.heap.size 3) (by simp [addF, dropF]) (by show (14 : Nat) ∈ _; decide)
  simp only [h9] at hK ⊢
  have HK := Lib.hid hK
  clear hK hR h9
  refine wp_append_lit _ _ 23 rfl w.heap.size 3 iI (.int .i64 0) 1 8 Tryz.underlying23 hiI hzaI hzbI hzcI rfl (by decide) k9 rfl hk9 hlk A n c (ints r.par) rfl (own_addr H.out.par) (H.out.rd.par.below H.out.rd.ltA hJ.tb.bel) ints_one (by unfold maxLen; omega) (by omega) hJ.tb.bel.size ?_
  intro v' w' own9 hb9
  obtain ⟨X9, c9, rfl, -⟩ := zAt own9
  exact HK.out _ _ (hJ.step hb9) hb9 ⟨X9, c9, rfl, own9⟩
 (try simp only [putA, zgd, zgf, zge, zgg])
 refine Det.flo (fE w.heap.size 199) rfl rfl (fun _ _ _ h hb => fE_bel h hb) ?_ ?_
 ·intro f w9 K hJ hR hK
  clear hR
  have HK := Lib.hid hK
  have hlo := hJ.tb.bel.size
  clear hK
  go_simp
  exact HK.out _ _ (hJ.step (zAa _ _)) (zAa _ _) ⟨_, rfl, zAk _ rfl, hlo⟩
 (try simp only [putA, zgd, zgf, zge, zgg])
 refine Det.val ?_ rfl ?_ (fun _ => Below.refl _ _) ?_
 rotate_left
 ·intro f w9 hJ
  have e9 := hJ.tb.b0; have x1 := zAb e9 1 rfl; have xf := zAh e9; simp only [zgc, zga, zgb] at x1; clear e9
  go_simp
  with_reducible rfl
 (try simp only [putA, zgd, zgf, zge, zgg])
 refine Det.val ?_ rfl ?_ (fun _ => Below.refl _ _) ?_
 rotate_left
 ·intro f w9 hJ
  have e9 := hJ.tb.b0; have x1 := zAb e9 1 rfl; have xf := zAh e9; simp only [zgc, zga, zgb] at x1; clear e9
  go_simp
  with_reducible rfl
 (try simp only [putA, zgd, zgf, zge, zgg])
 refine Det.val ?_ rfl ?_ (fun _ => Below.refl _ _) ?_
 rotate_left
 ·intro f w9 hJ
  have e9 := hJ.tb.b0; have x1 := zAb e9 1 rfl; have xf := zAh e9; simp only [zgc, zga, zgb] at x1; clear e9
  go_simp
  with_reducible rfl
 (try simp only [putA, zgd, zgf, zge, zgg])
 refine Det.flo (fO w.heap.size 199 4 m (flat r.nodes)) rfl rfl (fun _ _ _ h hb => fO_bel h hb) ?_ ?_
 ·intro f w9 K hJ hR hK
  obtain ⟨k9, h9, hk9, hlk⟩ := hR (19, fE w.heap.size 199) (by simp [addF, dropF]) (by show (19 : Nat) ∈ _; decide)
  simp only [h9] at hK ⊢
  have HK := Lib.hid hK
  clear hK hR h9
  refine wp_append_lit _ _ 24 rfl w.heap.size 199 iN (.agg #[.int .i64 0, .int .i64 0, .int .i64 0, .int .i64 0]) 4 32 Tryz.underlying24 hiN hzaN hzbN hzcN rfl (by decide) k9 rfl hk9 hlk B m d (flat r.nodes) rfl (own_addr H.out.nodes) (H.out.rd.nodes.below H.out.rd.ltB hJ.tb.bel) flat_one (by unfold maxLen; omega) (by omega) hJ.tb.bel.size ?_
  intro v' w' own9 hb9
  obtain ⟨X9, c9, rfl, -⟩ := zAt own9
  exact HK.out _ _ (hJ.step hb9) hb9 ⟨X9, c9, rfl, own9⟩
 (try simp only [putA, zgd, zgf, zge, zgg])
 refine Det.flo (fT w.heap.size n m r) rfl rfl (fun _ _ _ h hb => fT_bel h hb) ?_ ?_
 ·intro f w9 K hJ hR hK
  obtain ⟨X9, c9, h9, o9⟩ := hR (18, fO w.heap.size 3 1 n (ints r.par)) (by simp [addF, dropF]) (by show (18 : Nat) ∈ _; decide)
  obtain ⟨Y9, d9, h12, o12⟩ := hR (23, fO w.heap.size 199 4 m (flat r.nodes)) (by simp [addF, dropF]) (by show (23 : Nat) ∈ _; decide)
  simp only [h9, h12] at hK ⊢
  have HK := Lib.hid hK
  clear hK hR h9 h12
  go_simp
  exact HK.out _ _ hJ (Below.refl _ _) ⟨X9, c9, Y9, d9, rfl, o9, o12⟩
 (try simp only [putA, zgd, zgf, zge, zgg])
 refine Det.nil ?_
 intro f w9 hJ hR
 obtain ⟨X3, c3, Y3, d3, h24, o18, o23⟩ := hR (24, fT w.heap.size n m r) (by simp [addF, dropF])
 clear hR S1
 simp only [h24]
 clear h24
 have hle2 := hJ.hb
 have T0 : Hid (TR w ((w9.setCell ⟨bt, 0, none⟩ (.slice X3 n c3)).setCell ⟨bt, 1, none⟩ (.slice Y3 m d3)) bt ⟨X3, Y3, X5, none, X8, n, m, nu, 0, nl, c3, d3, c5, 0, c8⟩ r none 0 0 []) := Lib.hid (by
  have hz := hJ.bx
  exact ⟨by simpa using zAq (i := 1) (v := .slice Y3 m d3) (zAq (i := 0) (v := .slice X3 n c3) hz), own_set2 o18 hz (by decide) _ _, own_set2 o23 hz (by decide) _ _, own_set2 hJ.up hz (by decide) _ _, OwnP.nil _ _, own_set2 hJ.lics hz (by decide) _ _, fun i x h => by simp at h, (hJ.tb.bel.setCell hle _).setCell hle _, hJ.hb⟩)
 have XB0 := Lib.hid (bx_set (bx_set hJ.tb.b0 (a := ⟨bt, 0, none⟩) (by show w.heap.size ≠ bt; omega) (.slice X3 n c3)) (a := ⟨bt, 1, none⟩) (by show w.heap.size ≠ bt; omega) (.slice Y3 m d3))
 have XB1 := Lib.hid (bx_set (bx_set hJ.tb.b1 (a := ⟨bt, 0, none⟩) (by show w.heap.size + 1 ≠ bt; omega) (.slice X3 n c3)) (a := ⟨bt, 1, none⟩) (by show w.heap.size + 1 ≠ bt; omega) (.slice Y3 m d3))
 have z0 := zAb hJ.bx 0 rfl
 have z1 := zAb hJ.bx 1 rfl
 have zf := zAh hJ.bx
 have zl := zAf hJ.bx
 simp only [zgc, zga, zgb] at z0 z1
 clear hJ o18 o23
 show wpList _ _ _ (_ :: _ :: []) _ _
 go_upto_region 3 with fail
 clear z0 z1 zf zl
 generalize (w9.setCell ⟨bt, 0, none⟩ (.slice X3 n c3)).setCell ⟨bt, 1, none⟩ (.slice Y3 m d3) = wq at *
 all_goals (
  have e3 := zAb XB0.out 3 rfl
  simp only [zgc, zga, zgb] at e3
  clear XB0
  go_wp2
  go_loopw [29] (fun i wr => ∃ (k : Nat) (R7 : Option Addr) (cp7 : Nat) (xs7 : List Value), k ≤ np ∧ i = .int .i64 k ∧ TR w wr bt ⟨X3, Y3, X5, none, X8, n, m, nu, 0, nl, c3, d3, c5, 0, c8⟩ r R7 k cp7 xs7 ∧ wr.heap[w.heap.size + 1]? = some (.cells #[.slice none 0 0, .slice none 0 0, .slice none 0 0, .slice none 0 0, .slice none 0 0] 33 (0, 0))) (fun i _ => np - (intOf i).toNat)
  case atStart => exact ⟨0, none, 0, [], Nat.zero_le _, rfl, T0.out, XB1.out⟩
  case round =>
   clear T0 XB1 e3
   obtain ⟨k, R7, cp7, xs7, hk, rfl, T', X'⟩ := hrel
   obtain ⟨wo, rfl⟩ : ∃ x, x = wr := ⟨wr, rfl⟩
   have T1 := Lib.hid T'
   have X1 := Lib.hid X'
   clear T' X'
   have hbt := zAf T1.out.bx
   have hwb := T1.out.hb
   have hr1 := zAf X1.out
   by_cases hlt : k < np
   ·have hlt' : (k : Int) < np := by omega
    obtain ⟨ps, hps⟩ : ∃ p, r.profs[k]? = some p := ⟨_, zgh (by have := L4.out; omega)⟩
    obtain ⟨x, hx⟩ : ∃ x, xs[k]? = some x := ⟨_, zgh (by have := H.out.profs.xlen; dsimp only at this; omega)⟩
    obtain ⟨hpl9, hpo⟩ := H.out.profs.each k x ps hx hps
    obtain ⟨B9, c9, rfl, hrd9⟩ := zAt hpo
    have HAD9 := Lib.hid (own_addr hpo)
    have HLT9 := Lib.hid (own_blk hpo)
    have HRD9 := Lib.hid hrd9
    have HPL9 := Lib.hid hpl9
    have HPS := Lib.hid hps
    obtain ⟨g9, u9, hg9, hu9, cz9⟩ := Rd.at_ (zAv (zAe H.out.profs.own T1.out.bel)) hlt
    rw [hx] at hu9
    obtain rfl := Option.some.inj hu9
    dsimp only at hg9
    subst hg9
    have hps9 : ps.length ≤ 9223372036854775807 := by omega
    have HNB := Lib.hid (zAm T1.out.profs.own T1.out.bx (by decide))
    have e3 := zAb T1.out.bx 3 rfl
    simp only [zgc, zga, zgb] at e3
    have f3 := zAh T1.out.bx
    have HXL : Hid (∀ (i : Nat) y, xs7[i]? = some y → ∀ b, y.ownBlock = some b → b < wo.heap.size) := Lib.hid (fun i y hi b hb => T1.out.profs.ltx hi hb)
    have HXL2 : Hid (∀ b, atB X8 b → b < wo.heap.size) := Lib.hid (fun b hb => own_lt T1.out.lics b (atB_own' hb))
    clear hx hpo hrd9 hps hpl9 hu9 e3 f3
    go_upto_region 6 with fail
    refine wp_region_tail 5 (fun w9 => JR w wo w9 bt ⟨X3, Y3, X5, none, X8, n, m, nu, 0, nl, c3, d3, c5, 0, c8⟩ r R7 k cp7 xs7 (.slice B9 ps.length c9)) (fun a b => Below a.heap.size a b) (by kernel_rfl) (by kernel_rfl) (JR.mk (T1.out.step (zAc (zAa _ _) (zAd _ 1))) (zAg X1.out (zAc (zAa _ _) (zAd _ 1))) (bx_drew (zAk _ rfl)) (zAc (zAa _ _) (zAd _ 1))) ?_
    show Det _ _ _ _ _ _ (_ :: _ :: _ :: _ :: _ :: []) _ _
    refine Det.val ?_ rfl ?_ (fun _ => Below.refl _ _) ?_
    rotate_left
    ·intro f w9 hJ
     have e3 := zAb hJ.tr.bx 3 rfl; have f3 := zAh hJ.tr.bx; simp only [zgc, zga, zgb] at e3
     go_simp
     with_reducible rfl
    (try simp only [putA, zgd, zgf, zge, zgg])
    refine Det.val ?_ rfl ?_ (fun _ => Below.refl _ _) ?_
    rotate_left
    ·intro f w9 hJ
     have e3 := zAb hJ.tr.bx 3 rfl; have f3 := zAh hJ.tr.bx; simp only [zgc, zga, zgb] at e3
     go_simp
     with_reducible rfl
    (try simp only [putA, zgd, zgf, zge, zgg])
    refine Det.val ?_ rfl ?_ (fun _ => Below.refl _ _) ?_
    rotate_left
    ·intro f w9 hJ
     have e5 := zAb hJ.c5 0 rfl; have f5 := zAh hJ.c5; simp only [zgc, zga, zgb] at e5
     go_simp
     with_reducible rfl
    (try simp only [putA, zgd, zgf, zge, zgg])
    refine Det.flo (rP3 wo.heap.size ps) rfl rfl (fun _ _ _ h hb => rP3_bel h hb) ?_ ?_
    ·intro f w9 K hJ hR hK
     have HK := Lib.hid hK
     clear hK hR
     go_simp
     go_at_call 207
     refine (sProf_any B9 ps.length c9 ps _ HPL9.out HAD9.out (HRD9.out.below HLT9.out (zAc T1.out.bel hJ.le)) (zAi HLT9.out (zAc T1.out.bel hJ.le))).mono ?_
     rintro e w13 ⟨v13, rfl, own13, hb13⟩
     obtain ⟨X13, c13, rfl, -⟩ := zAt own13
     exact HK.out _ _ (hJ.bel hb13) hb13 ⟨X13, c13, rfl, zAn own13 hJ.le.size⟩
    (try simp only [putA, zgd, zgf, zge, zgg])
    refine Det.flo (rP4 wo.heap.size ps) rfl rfl (fun _ _ _ h hb => rP4_bel h hb) ?_ ?_
    ·intro f w9 K hJ hR hK
     obtain ⟨X13, c13, h36, own13⟩ := hR (36, rP3 wo.heap.size ps) (by simp [addF, dropF]) (by show (36 : Nat) ∈ _; decide)
     simp only [h36] at hK ⊢
     have HK := Lib.hid hK
     clear hK hR h36
     have hle9 := hJ.le.size
     go_simp
     exact HK.out _ _ (hJ.bel (zAa _ _)) (zAa _ _) ⟨_, X13, c13, rfl, zAk _ rfl, zAe own13 (zAa _ _), hle9⟩
    (try simp only [putA, zgd, zgf, zge, zgg])
    refine Det.nil ?_
    intro f w9 hJ hR
    obtain ⟨X36, c36, h36, -⟩ := hR (36, rP3 wo.heap.size ps) (by simp [addF, dropF])
    obtain ⟨kk, X13, c13, h37, hb37, own13, hkk⟩ := hR (37, rP4 wo.heap.size ps) (by simp [addF, dropF])
    clear hR
    simp only [h36, h37]
    clear h36 h37
    have J1 := Lib.hid hJ
    clear hJ
    have hnb := zAm J1.out.tr.profs.own J1.out.tr.bx (by decide)
    show wpList _ _ _ (_ :: _ :: _ :: []) _ _
    at_builtin
    refine zAw rfl _ _ 28 rfl w.heap.size 31 iP (.agg #[.slice none 0 0]) 1 24 Tryz.underlying28 hiP hzaP hzbP hzcP rfl (by decide) (.slice R7 k cp7) k xs7 rfl J1.out.tr.profs.own (some ⟨kk, 0, none⟩) 1 1 [.slice X13 ps.length c13] rfl (Or.inr ⟨_, rfl⟩) (zAv (lo := 0) (e := 31) (own_lit (cs := [.slice X13 ps.length c13]) hb37 rfl (by decide) (Nat.zero_le _))) (by intro u hu; simp at hu; subst hu; rfl) (by unfold maxLen; omega) (by omega) J1.out.tr.bel.size ?_
    intro v15 w15 own15 hgr15 hne15 hat15
    obtain ⟨X15, c15, rfl, -⟩ := zAt own15
    have T4 := Lib.hid (J1.out.tr.app HPS.out own15 hgr15 own13 (by omega) HPL9.out (fun i y hi b hb hb2 => by have q1 := HXL.out i y hi b hb; have q2 := own_ge own13 b hb2; omega) (fun b hb hb2 => by have q1 := HXL2.out b hb2; have q2 := own_ge own13 b hb; omega))
    have X4 := Lib.hid (bx_set (a := ⟨bt, 3, none⟩) (zAr J1.out.x1 hgr15 (zAm J1.out.tr.profs.own J1.out.x1 (by decide))) (by show w.heap.size + 1 ≠ bt; omega) (.slice X15 (k + 1) c15))
    have b15 := zAr J1.out.tr.bx hgr15 hnb
    have e15 := zAb b15 3 rfl
    have f15 := zAh b15
    simp only [zgc, zga, zgb] at e15
    clear own15 hgr15 hne15 hat15 hb37 own13
    go_wp2
    go_light
    clear HXL HXL2 HPS HRD9 HLT9 HAD9 HPL9 cz9 e15 f15 b15 hnb hkk
    generalize w15.setCell _ _ = w4 at *
    exact ⟨⟨k + 1, X15, c15, _, by omega, by simp, T4.out, X4.out⟩, by simp [intOf]; omega⟩
   ·have hkn : k = np := by omega
    subst hkn
    have hlt' : ¬ (k : Int) < k := by omega
    have k0 := zAb T1.out.bx 0 rfl
    have k1 := zAb T1.out.bx 1 rfl
    have k2 := zAb T1.out.bx 2 rfl
    have k3 := zAb T1.out.bx 3 rfl
    have k4 := zAb T1.out.bx 4 rfl
    have f1 := zAh X1.out
    have x0 := zAb X1.out 0 rfl
    have x1 := zAb X1.out 1 rfl
    have x2 := zAb X1.out 2 rfl
    have x3 := zAb X1.out 3 rfl
    have x4 := zAb X1.out 4 rfl
    simp only [zgc, zga, zgb] at k0 k1 k2 k3 k4 x0 x1 x2 x3 x4
    go_wp2
    go_light
    refine bodyPost_ret (v := .agg #[.slice X3 n c3, .slice Y3 m d3, .slice X5 nu c5, .slice R7 k cp7, .slice X8 nl c8]) (by simp [results, Tryz.results150, go_sem, *]) rfl ?_
    have hd := T1.out.done L4.out H.out.n H.out.m hnu hnp H.out.nl
    exact ⟨⟨X3, Y3, X5, R7, X8, n, m, nu, k, nl, c3, d3, c5, cp7, c8⟩, rfl, ⟨xs7, hd.box5 X1.out _ _ _ _ _⟩, bel_set5 T1.out.bel (Nat.le_succ _) _ _ _ _ _⟩)
end Go.Proofs.YtnphjhbfpoekpaaGreat
