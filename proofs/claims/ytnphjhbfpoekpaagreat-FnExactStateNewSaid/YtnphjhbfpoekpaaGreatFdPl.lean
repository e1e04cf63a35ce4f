import Derived.Test.YtnphjhbfpoekpaaGreatFcPl
import Derived.Test.YtnphjhbfpoekpaaGreatA22Pl
import Derived.Test.YtnphjhbfpoekpaaGreatA24Pl
namespace Go.Proofs.YtnphjhbfpoekpaaGreat
set_option linter.unusedSimpArgs false
set_option linter.unusedVariables false
set_option linter.unnecessarySimpa false
open Go.RowKit
theorem sz1 (w : World) (o : Obj) : w.heap.size + 1 = (w.alloc o).heap.size := by simp
theorem sz2 (w : World) (o o1 : Obj) : w.heap.size + 1 + 1 = ((w.alloc o).alloc o1).heap.size := by simp
theorem bx_set5 {w : World} {b k : Nat} {o : Obj} (h : w.heap[k]? = some o) (hn : k ≠ b) (v0 v1 v2 v3 v4 : Value) : (((((w.setCell ⟨b, 0, none⟩ v0).setCell ⟨b, 1, none⟩ v1).setCell ⟨b, 2, none⟩ v2).setCell ⟨b, 3, none⟩ v3).setCell ⟨b, 4, none⟩ v4).heap[k]? = some o :=
 bx_set (bx_set (bx_set (bx_set (bx_set h hn _) hn _) hn _) hn _) hn _
theorem bd3r (w : World) (o o1 o2 : Obj) : Below w.heap.size w (((w.alloc o).alloc o1).alloc o2).drew := (zAc (zAc (zAc (Below.refl _ _) (zAa _ _)) (zAa _ _)) (zAa _ _)).drew
structure JR (w wo w9 : World) (b : Nat) (a : RA) (r : Rm) (R : Option Addr) (k cp : Nat) (xs : List Value) (x : Value) : Prop where
 tr : TR w w9 b a r R k cp xs
 x1 : w9.heap[w.heap.size + 1]? = some (.cells #[.slice none 0 0, .slice none 0 0, .slice none 0 0, .slice none 0 0, .slice none 0 0] 33 (0, 0))
 c5 : w9.heap[wo.heap.size]? = some (.cells #[x] 31 (0, 0))
 le : Below wo.heap.size wo w9
theorem JR.bel {w wo w9 w' : World} {b : Nat} {a : RA} {r : Rm} {R : Option Addr} {k cp : Nat} {xs : List Value} {x : Value} (h : JR w wo w9 b a r R k cp xs x) (hb : Below w9.heap.size w9 w') : JR w wo w' b a r R k cp xs x :=
 ⟨h.tr.step hb, zAg h.x1 hb, zAg h.c5 hb, zAc h.le hb⟩
theorem OwnP.ltx {w : World} {lo : Nat} {v : Value} {n : Nat} {xs : List Value} {pss : List (List Q)} (h : OwnP w lo v n xs pss) {i : Nat} {y : Value} (hi : xs[i]? = some y) {b : Nat} (hb : y.ownBlock = some b) : b < w.heap.size := by
 have e1 := h.xlen
 have e2 := h.len
 have hl := (List.getElem?_eq_some_iff.1 hi).1
 obtain ⟨p, hp⟩ : ∃ p, pss[i]? = some p := ⟨_, zgh (by omega)⟩
 exact own_lt (h.each i y p hi hp).2 b hb
theorem RoomOwn.box1 {w : World} {lo : Nat} {a : RA} {r : Rm} {xs : List Value} (h : RoomOwn w lo a r xs) {b : Nat} (hb : ∃ vs f, w.heap[b]? = some (.cells vs 33 f)) (o : Nat) (u : Value) : RoomOwn (w.setCell ⟨b, o, none⟩ u) lo a r xs ∧ ∃ vs f, (w.setCell ⟨b, o, none⟩ u).heap[b]? = some (.cells vs 33 f) := by
 obtain ⟨vs, f, hb⟩ := hb
 exact ⟨⟨h.n, h.m, h.nu, h.np, h.nl, zAo h.par (zAm h.par hb (by decide)) _, zAo h.nodes (zAm h.nodes hb (by decide)) _, zAo h.up (zAm h.up hb (by decide)) _, h.profs.box hb o u, zAo h.lics (zAm h.lics hb (by decide)) _, h.apart⟩, _, _, zAq (i := o) (v := u) hb⟩
theorem RoomOwn.box5 {w : World} {lo : Nat} {a : RA} {r : Rm} {xs : List Value} (h : RoomOwn w lo a r xs) {b : Nat} {vs : Array Value} {f : Nat × Nat} (hb : w.heap[b]? = some (.cells vs 33 f)) (v0 v1 v2 v3 v4 : Value) : RoomOwn (((((w.setCell ⟨b, 0, none⟩ v0).setCell ⟨b, 1, none⟩ v1).setCell ⟨b, 2, none⟩ v2).setCell ⟨b, 3, none⟩ v3).setCell ⟨b, 4, none⟩ v4) lo a r xs := by
 obtain ⟨h1, e1⟩ := h.box1 ⟨vs, f, hb⟩ 0 v0
 obtain ⟨h2, e2⟩ := h1.box1 e1 1 v1
 obtain ⟨h3, e3⟩ := h2.box1 e2 2 v2
 obtain ⟨h4, e4⟩ := h3.box1 e3 3 v3
 exact (h4.box1 e4 4 v4).1
theorem bel_set5 {w w' : World} {lo b : Nat} (h : Below lo w w') (hb : lo ≤ b) (v0 v1 v2 v3 v4 : Value) : Below lo w (((((w'.setCell ⟨b, 0, none⟩ v0).setCell ⟨b, 1, none⟩ v1).setCell ⟨b, 2, none⟩ v2).setCell ⟨b, 3, none⟩ v3).setCell ⟨b, 4, none⟩ v4) :=
 ((((h.setCell hb _).setCell hb _).setCell hb _).setCell hb _).setCell hb _
def rP3 (lo : Nat) (ps : List Q) : Value → World → Prop := fun u w => ∃ (X : Option Addr) (c : Nat), u = .agg #[.slice X ps.length c] ∧ w.ownsRow lo 177 4 (.slice X ps.length c) ps.length (flat ps)
theorem rP3_bel {lo : Nat} {ps : List Q} {u : Value} {w w' : World} (h : rP3 lo ps u w) (hb : Below w.heap.size w w') : rP3 lo ps u w' := by
 obtain ⟨X, c, h1, h2⟩ := h
 exact ⟨X, c, h1, zAe h2 hb⟩
def rP4 (lo : Nat) (ps : List Q) : Value → World → Prop := fun u w => ∃ (k : Nat) (X : Option Addr) (c : Nat), u = .slice (some ⟨k, 0, none⟩) 1 1 ∧ w.heap[k]? = some (.cells #[.slice X ps.length c] 31 (0, 0)) ∧ w.ownsRow lo 177 4 (.slice X ps.length c) ps.length (flat ps) ∧ lo ≤ k
theorem rP4_bel {lo : Nat} {ps : List Q} {u : Value} {w w' : World} (h : rP4 lo ps u w) (hb : Below w.heap.size w w') : rP4 lo ps u w' := by
 obtain ⟨k, X, c, h1, h2, h3, h4⟩ := h
 exact ⟨k, X, c, h1, zAg h2 hb, zAe h3 hb, h4⟩
set_option maxHeartbeats 16000000 in
set_option maxRecDepth 20000 in
theorem copyRoom_any (a : RA) (r : Rm) (xs : List Value) (lo : Nat) (w : World) (h : RoomOwn w lo a r xs) :
  Calls Tryz.prog 177 #[a.v] w fun e w' => ∃ a' xs', e = .returned (RA.v a') ∧ RoomOwn w' w.heap.size a' r xs' ∧ Below w.heap.size w w' := by
 obtain ⟨l1, l2, l3, l4, l5⟩ := h.rd.lens
 obtain ⟨A, B, U, R, L, n, m, nu, np, nl, c, d, cu, cp, cl⟩ := a
 dsimp only [RA.v]
 dsimp only at *
 have L4 := Lib.hid l4
 have H := Lib.hid h
 have hnp : np ≤ 1048576 := h.np
 have hm9 : np ≤ 9223372036854775807 := by omega
 have hnu : nu ≤ 1048576 := h.nu
 have hunl : nu ≤ 9223372036854775807 := by omega
 clear h l1 l2 l3 l4 l5
 obtain ⟨iB, hiB, hzaB, hzbB, hzcB⟩ := info_parts infoB
 obtain ⟨iP, hiP, hzaP, hzbP, hzcP⟩ := info_parts infoProf
 go_enter Tryz.func177, Tryz.ntmps177
 go_wp2_with fail
 go_region_held3 (fun w' => w'.cell? ⟨w.heap.size, 0, none⟩ = some (.slice A n c) ∧ w'.cell? ⟨w.heap.size, 1, none⟩ = some (.slice B m d) ∧ w'.cell? ⟨w.heap.size, 2, none⟩ = some (.slice U nu cu) ∧ w'.cell? ⟨w.heap.size, 4, none⟩ = some (.slice L nl cl)) (simp [go_sem, *, World.cell?_alloc_some, World.cell?_setCell_far, Nat.lt_add_right, Nat.ne_of_gt]) (first | (go_at_call 120; (first | refine (copyTopo_any A B n c m d r.par r.nodes _ H.out.n H.out.m (H.out.rd.par.below H.out.rd.ltA (bd2 _ _ _)) (H.out.rd.nodes.below H.out.rd.ltB (bd2 _ _ _)) (zAi H.out.rd.ltA (bd2 _ _ _)) (zAi H.out.rd.ltB (bd2 _ _ _)) (own_addr H.out.par) (own_addr H.out.nodes)).mono ?_ | refine (copyTopo_any A B n c m d r.par r.nodes _ H.out.n H.out.m (H.out.rd.par.below H.out.rd.ltA (bd3r _ _ _ _)) (H.out.rd.nodes.below H.out.rd.ltB (bd3r _ _ _ _)) (zAi H.out.rd.ltA (bd3r _ _ _ _)) (zAi H.out.rd.ltB (bd3r _ _ _ _)) (own_addr H.out.par) (own_addr H.out.nodes)).mono ?_); rintro e w3 ⟨u3, v3, rfl, owa3, owb3, hb3⟩; have hs3 := hb3.size; (try simp at hs3); (have hy30 : w.heap.size < w3.heap.size := (by omega)); (have hk30 := fun o => hb3.cell (p := ⟨w.heap.size, o, none⟩) zOm); (have hg30 := fun o => hb3.frozen (p := ⟨w.heap.size, o, none⟩) zOm); (have hy31 : w.heap.size + 1 < w3.heap.size := (by omega)); (have hk31 := fun o => hb3.cell (p := ⟨w.heap.size + 1, o, none⟩) zOm); (have hg31 := fun o => hb3.frozen (p := ⟨w.heap.size + 1, o, none⟩) zOm); (try (have hxy30 : w.heap.size + 1 + 1 < w3.heap.size := (by omega); have hxk30 := fun o => hb3.cell (p := ⟨w.heap.size + 1 + 1, o, none⟩) zOm; have hxg30 := fun o => hb3.frozen (p := ⟨w.heap.size + 1 + 1, o, none⟩) zOm)); have B3 : Below w.heap.size w w3 := (by first | exact zAc (bd2 _ _ _) hb3 | exact zAc (bd3r _ _ _ _) hb3); have bx03 : w3.heap[w.heap.size]? = some (.cells #[.slice A n c, .slice B m d, .slice U nu cu, .slice R np cp, .slice L nl cl] 33 (0, 0)) := zAg (by first | exact bx_drew (zAu (zAk _ rfl) _) | exact bx_drew (zAu (zAu (zAk _ rfl) _) _)) hb3; have bx13 : w3.heap[w.heap.size + 1]? = some (.cells #[.slice none 0 0, .slice none 0 0, .slice none 0 0, .slice none 0 0, .slice none 0 0] 33 (0, 0)) := zAg (by first | exact bx_drew (zAk _ (sz1 _ _)) | exact bx_drew (zAu (zAk _ (sz1 _ _)) _)) hb3; obtain ⟨X3, c3, rfl, _⟩ := zAt owa3; obtain ⟨Y3, d3, rfl, _⟩ := zAt owb3) | ((apply step_append_row (t := 27) (base := (w.heap.size + 1 + 1)) (e := 4) (i := iB) (z := (.bool false)) (size := 1) (bytes := 1) (ht := Tryz.underlying27) (hi := hiB) (hz := hzaB) (hsize := hzbB) (hby := hzcB) (hzs := rfl) (hsz := by decide) (v := (.slice none 0 0)) (n := 0) (xs := []) (X := U) (m := nu) (c := cu) (news := (bools r.up))); (case hgd => rfl); (case ho => rfl); (case hs => rfl); (case hx => rfl); (case hown => exact own_nil _ _ _ _); (case hX => exact own_addr H.out.up); (case hrd => first | exact H.out.rd.up.below H.out.rd.ltU B3 | exact H.out.rd.up.below H.out.rd.ltU (zAc B3 (zAa _ _))); (case h1 => exact bools_one); (case h63 => (unfold maxLen; omega)); (case hbytes => (omega)); (case hbase => first | omega | (simp <;> omega)); (intro v5 w5 own5 hgr5 hne5 hat5); (have hs5 := hgr5.size); (try simp at hs5); (try rw [List.nil_append] at own5); (try simp only [Nat.zero_add] at own5); (obtain ⟨X5, c5, rfl, _⟩ := zAt own5); (have hb5 := Below.grown (Below.refl _ _) hgr5 (Nat.le_refl _) (fun k hk => by cases hk)); (have hy50 : w.heap.size < w5.heap.size := (by omega)); (have hk50 := fun o => hb5.cell (p := ⟨w.heap.size, o, none⟩) zOm); (have hg50 := fun o => hb5.frozen (p := ⟨w.heap.size, o, none⟩) zOm); (have hy51 : w.heap.size + 1 < w5.heap.size := (by omega)); (have hk51 := fun o => hb5.cell (p := ⟨w.heap.size + 1, o, none⟩) zOm); (have hg51 := fun o => hb5.frozen (p := ⟨w.heap.size + 1, o, none⟩) zOm); (try (have hxy50 : w.heap.size + 1 + 1 < w5.heap.size := (by omega); have hxk50 := fun o => hb5.cell (p := ⟨w.heap.size + 1 + 1, o, none⟩) zOm; have hxg50 := fun o => hb5.frozen (p := ⟨w.heap.size + 1 + 1, o, none⟩) zOm)); (try (have hxy51 : w3.heap.size < w5.heap.size := (by omega); have hxk51 := fun o => hb5.cell (p := ⟨w3.heap.size, o, none⟩) zOm; have hxg51 := fun o => hb5.frozen (p := ⟨w3.heap.size, o, none⟩) zOm)); (have b35 : Below w3.heap.size w3 w5 := by first | exact hb5 | exact zAc (zAa _ _) hb5); (have B5 := zAc B3 b35)) | (go_at_call 213; (first | refine (copyProf_any L nl cl r.lics _ H.out.nl (own_addr H.out.lics) (H.out.rd.lics.below H.out.rd.ltL (B5)) (zAi H.out.rd.ltL (B5))).mono ?_ | refine (copyProf_any L nl cl r.lics _ H.out.nl (own_addr H.out.lics) (H.out.rd.lics.below H.out.rd.ltL (zAc B5 (zAa _ _))) (zAi H.out.rd.ltL (zAc B5 (zAa _ _)))).mono ?_); rintro e w8 ⟨v8, rfl, own8, hb8⟩; have hs8 := hb8.size; (try simp at hs8); (have hy80 : w.heap.size < w8.heap.size := (by omega)); (have hk80 := fun o => hb8.cell (p := ⟨w.heap.size, o, none⟩) zOm); (have hg80 := fun o => hb8.frozen (p := ⟨w.heap.size, o, none⟩) zOm); (have hy81 : w.heap.size + 1 < w8.heap.size := (by omega)); (have hk81 := fun o => hb8.cell (p := ⟨w.heap.size + 1, o, none⟩) zOm); (have hg81 := fun o => hb8.frozen (p := ⟨w.heap.size + 1, o, none⟩) zOm); (try (have hxy80 : w.heap.size + 1 + 1 < w8.heap.size := (by omega); have hxk80 := fun o => hb8.cell (p := ⟨w.heap.size + 1 + 1, o, none⟩) zOm; have hxg80 := fun o => hb8.frozen (p := ⟨w.heap.size + 1 + 1, o, none⟩) zOm)); (try (have hxy81 : w3.heap.size < w8.heap.size := (by omega); have hxk81 := fun o => hb8.cell (p := ⟨w3.heap.size, o, none⟩) zOm; have hxg81 := fun o => hb8.frozen (p := ⟨w3.heap.size, o, none⟩) zOm)); (try (have hxy82 : w5.heap.size < w8.heap.size := (by omega); have hxk82 := fun o => hb8.cell (p := ⟨w5.heap.size, o, none⟩) zOm; have hxg82 := fun o => hb8.frozen (p := ⟨w5.heap.size, o, none⟩) zOm)); obtain ⟨X8, c8, rfl, _⟩ := zAt own8; have b58 : Below w5.heap.size w5 w8 := (by first | exact hb8 | exact zAc (zAa _ _) hb8); have B8 := zAc B5 b58))
 all_goals (first | (have T0 := Lib.hid (TR.start (a := ⟨X3, Y3, X5, none, X8, n, m, nu, 0, nl, c3, d3, c5, 0, c8⟩) (r := r) (b := w.heap.size + 1 + 1) (zAn (zAe (zAe owa3 b35) b58) zOm) (zAn (zAe (zAe owb3 b35) b58) zOm) (zAn (zAe own5 b58) (by omega)) (zAn own8 zOm) B8 (by omega) (zAg (zAg (zAg (bx_drew (zAk _ (sz2 _ _ _))) hb3) b35) b58) ⟨_, _, _, _, _, rfl⟩); have XB0 := Lib.hid (bx_set5 (b := w.heap.size + 1 + 1) (zAg (zAg bx03 b35) b58) (by omega) (.slice X3 n c3) (.slice Y3 m d3) (.slice X5 nu c5) (.slice none 0 0) (.slice X8 nl c8)); have XB1 := Lib.hid (bx_set5 (b := w.heap.size + 1 + 1) (zAg (zAg bx13 b35) b58) (by omega) (.slice X3 n c3) (.slice Y3 m d3) (.slice X5 nu c5) (.slice none 0 0) (.slice X8 nl c8)); clear owa3 owb3 own5 own8 hgr5 hne5 hat5; generalize (((((w8.setCell ⟨w.heap.size + 1 + 1, 0, none⟩ (.slice X3 n c3)).setCell ⟨w.heap.size + 1 + 1, 1, none⟩ (.slice Y3 m d3)).setCell ⟨w.heap.size + 1 + 1, 2, none⟩ (.slice X5 nu c5)).setCell ⟨w.heap.size + 1 + 1, 3, none⟩ (.slice none 0 0)).setCell ⟨w.heap.size + 1 + 1, 4, none⟩ (.slice X8 nl c8)) = wq at *; generalize w.heap.size + 1 + 1 = bt at *) | (have T0 := Lib.hid (TR.start (a := ⟨X3, Y3, X5, none, X8, n, m, nu, 0, nl, c3, d3, c5, 0, c8⟩) (r := r) (b := w3.heap.size) (zAn (zAe (zAe owa3 b35) b58) zOm) (zAn (zAe (zAe owb3 b35) b58) zOm) (zAn (zAe own5 b58) (by omega)) (zAn own8 zOm) B8 (by omega) (zAg (zAg (zAk _ rfl) hb5) b58) ⟨_, _, _, _, _, rfl⟩); have XB0 := Lib.hid (bx_set5 (b := w3.heap.size) (zAg (zAg bx03 b35) b58) (by omega) (.slice X3 n c3) (.slice Y3 m d3) (.slice X5 nu c5) (.slice none 0 0) (.slice X8 nl c8)); have XB1 := Lib.hid (bx_set5 (b := w3.heap.size) (zAg (zAg bx13 b35) b58) (by omega) (.slice X3 n c3) (.slice Y3 m d3) (.slice X5 nu c5) (.slice none 0 0) (.slice X8 nl c8)); clear owa3 owb3 own5 own8 hgr5 hne5 hat5; generalize (((((w8.setCell ⟨w3.heap.size, 0, none⟩ (.slice X3 n c3)).setCell ⟨w3.heap.size, 1, none⟩ (.slice Y3 m d3)).setCell ⟨w3.heap.size, 2, none⟩ (.slice X5 nu c5)).setCell ⟨w3.heap.size, 3, none⟩ (.slice none 0 0)).setCell ⟨w3.heap.size, 4, none⟩ (.slice X8 nl c8)) = wq at *; generalize w3.heap.size = bt at *) | (have T0 := Lib.hid (TR.start (a := ⟨X3, Y3, X5, none, X8, n, m, nu, 0, nl, c3, d3, c5, 0, c8⟩) (r := r) (b := w5.heap.size) (zAn (zAe (zAe owa3 b35) b58) zOm) (zAn (zAe (zAe owb3 b35) b58) zOm) (zAn (zAe own5 b58) (by omega)) (zAn own8 zOm) B8 (by omega) (zAg (zAk _ rfl) hb8) ⟨_, _, _, _, _, rfl⟩); have XB0 := Lib.hid (bx_set5 (b := w5.heap.size) (zAg (zAg bx03 b35) b58) (by omega) (.slice X3 n c3) (.slice Y3 m d3) (.slice X5 nu c5) (.slice none 0 0) (.slice X8 nl c8)); have XB1 := Lib.hid (bx_set5 (b := w5.heap.size) (zAg (zAg bx13 b35) b58) (by omega) (.slice X3 n c3) (.slice Y3 m d3) (.slice X5 nu c5) (.slice none 0 0) (.slice X8 nl c8)); clear owa3 owb3 own5 own8 hgr5 hne5 hat5; generalize (((((w8.setCell ⟨w5.heap.size, 0, none⟩ (.slice X3 n c3)).setCell ⟨w5.heap.size, 1, none⟩ (.slice Y3 m d3)).setCell ⟨w5.heap.size, 2, none⟩ (.slice X5 nu c5)).setCell ⟨w5.heap.size, 3, none⟩ (.slice none 0 0)).setCell ⟨w5.heap.size, 4, none⟩ (.slice X8 nl c8)) = wq at *; generalize w5.heap.size = bt at *) | (have T0 := Lib.hid (TR.start2 (a := ⟨X3, Y3, X5, none, X8, n, m, nu, 0, nl, c3, d3, c5, 0, c8⟩) (r := r) (zAn (zAe (zAe owa3 b35) b58) zOm) (zAn (zAe (zAe owb3 b35) b58) zOm) (zAn (zAe own5 b58) (by omega)) (zAn own8 zOm) B8 (by omega)); have XB0 := Lib.hid (zAu (zAg (zAg bx03 b35) b58) (.cells #[.slice X3 n c3, .slice Y3 m d3, .slice X5 nu c5, .slice none 0 0, .slice X8 nl c8] 33)); have XB1 := Lib.hid (zAu (zAg (zAg bx13 b35) b58) (.cells #[.slice X3 n c3, .slice Y3 m d3, .slice X5 nu c5, .slice none 0 0, .slice X8 nl c8] 33)); clear owa3 owb3 own5 own8 hgr5 hne5 hat5; generalize w8.alloc (.cells #[.slice X3 n c3, .slice Y3 m d3, .slice X5 nu c5, .slice none 0 0, .slice X8 nl c8] 33) = wq at *; generalize w8.heap.size = bt at *))
 all_goals (try clear hs3 hs8 hs5)
 all_goals (try clear hk30 hk31 hg30 hg31 hk50 hk51 hg50 hg51 hk80 hk81 hg80 hg81 hy30 hy31 hy50 hy51 hy80 hy81 B3 B5 B8 b35 b58 bx03 bx13)
 all_goals (
  have e3 := zAb XB0.out 3 rfl
  simp only [zgc, zga, zgb] at e3
  clear XB0
  go_wp2
  go_loopw [19] (fun i wr => ∃ (k : Nat) (R7 : Option Addr) (cp7 : Nat) (xs7 : List Value), k ≤ np ∧ i = .int .i64 k ∧ TR w wr bt ⟨X3, Y3, X5, none, X8, n, m, nu, 0, nl, c3, d3, c5, 0, c8⟩ r R7 k cp7 xs7 ∧ wr.heap[w.heap.size + 1]? = some (.cells #[.slice none 0 0, .slice none 0 0, .slice none 0 0, .slice none 0 0, .slice none 0 0] 33 (0, 0))) (fun i _ => np - (intOf i).toNat)
  case atStart => exact ⟨0, none, 0, [], Nat.zero_le _, rfl, T0.out, XB1.out⟩
  case round =>
   clear T0 XB1 e3
   obtain ⟨k, R7, cp7, xs7, hk, rfl, T', X'⟩ := hrel
   obtain ⟨wo, rfl⟩ : ∃ x, x = wr := ⟨wr, rfl⟩
   have T1 := Lib.hid T'
   have X1 := Lib.hid X'
   clear T' X'
   have hbt := zAf T1.out.bx
   have hwb := T1.out.hb
   have hr1 := zAf X1.out
   by_cases hlt : k < np
   ·have hlt' : (k : Int) < np := by omega
    obtain ⟨ps, hps⟩ : ∃ p, r.profs[k]? = some p := ⟨_, zgh (by have := L4.out; omega)⟩
    obtain ⟨x, hx⟩ : ∃ x, xs[k]? = some x := ⟨_, zgh (by have := H.out.profs.xlen; dsimp only at this; omega)⟩
    obtain ⟨hpl9, hpo⟩ := H.out.profs.each k x ps hx hps
    obtain ⟨B9, c9, rfl, hrd9⟩ := zAt hpo
    have HAD9 := Lib.hid (own_addr hpo)
    have HLT9 := Lib.hid (own_blk hpo)
    have HRD9 := Lib.hid hrd9
    have HPL9 := Lib.hid hpl9
    have HPS := Lib.hid hps
    obtain ⟨g9, u9, hg9, hu9, cz9⟩ := Rd.at_ (zAv (zAe H.out.profs.own T1.out.bel)) hlt
    rw [hx] at hu9
    obtain rfl := Option.some.inj hu9
    dsimp only at hg9
    subst hg9
    have hps9 : ps.length ≤ 9223372036854775807 := by omega
    have HNB := Lib.hid (zAm T1.out.profs.own T1.out.bx (by decide))
    have e3 := zAb T1.out.bx 3 rfl
    simp only [zgc, zga, zgb] at e3
    have f3 := zAh T1.out.bx
    have HXL : Hid (∀ (i : Nat) y, xs7[i]? = some y → ∀ b, y.ownBlock = some b → b < wo.heap.size) := Lib.hid (fun i y hi b hb => T1.out.profs.ltx hi hb)
    have HXL2 : Hid (∀ b, atB X8 b → b < wo.heap.size) := Lib.hid (fun b hb => own_lt T1.out.lics b (atB_own' hb))
    clear hx hpo hrd9 hps hpl9 hu9 e3 f3
    go_upto_region 5 with fail
    refine wp_region_tail 5 (fun w9 => JR w wo w9 bt ⟨X3, Y3, X5, none, X8, n, m, nu, 0, nl, c3, d3, c5, 0, c8⟩ r R7 k cp7 xs7 (.slice B9 ps.length c9)) (fun a b => Below a.heap.size a b) (by kernel_rfl) (by kernel_rfl) (JR.mk (T1.out.step (zAc (zAa _ _) (zAd _ 1))) (zAg X1.out (zAc (zAa _ _) (zAd _ 1))) (bx_drew (zAk _ rfl)) (zAc (zAa _ _) (zAd _ 1))) ?_
    show Det _ _ _ _ _ _ (_ :: _ :: _ :: _ :: _ :: []) _ _
    refine Det.val ?_ rfl ?_ (fun _ => Below.refl _ _) ?_
    rotate_left
    ·intro f w9 hJ
     have e3 := zAb hJ.tr.bx 3 rfl; have f3 := zAh hJ.tr.bx; simp only [zgc, zga, zgb] at e3
     go_simp
     with_reducible rfl
    (try simp only [putA, zgd, zgf, zge, zgg])
    refine Det.val ?_ rfl ?_ (fun _ => Below.refl _ _) ?_
    rotate_left
    ·intro f w9 hJ
     have e3 := zAb hJ.tr.bx 3 rfl; have f3 := zAh hJ.tr.bx; simp only [zgc, zga, zgb] at e3
     go_simp
     with_reducible rfl
    (try simp only [putA, zgd, zgf, zge, zgg])
    refine Det.val ?_ rfl ?_ (fun _ => Below.refl _ _) ?_
    rotate_left
    ·intro f w9 hJ
     have e5 := zAb hJ.c5 0 rfl; have f5 := zAh hJ.c5; simp only [zgc, zga, zgb] at e5
     go_simp
     with_reducible rfl
    (try simp only [putA, zgd, zgf, zge, zgg])
    refine Det.flo (rP3 wo.heap.size ps) rfl rfl (fun _ _ _ h hb => rP3_bel h hb) ?_ ?_
    ·intro f w9 K hJ hR hK
     have HK := Lib.hid hK
     clear hK hR
     go_simp
     go_at_call 213
     refine (copyProf_any B9 ps.length c9 ps _ HPL9.out HAD9.out (HRD9.out.below HLT9.out (zAc T1.out.bel hJ.le)) (zAi HLT9.out (zAc T1.out.bel hJ.le))).mono ?_
     rintro e w13 ⟨v13, rfl, own13, hb13⟩
     obtain ⟨X13, c13, rfl, -⟩ := zAt own13
     exact HK.out _ _ (hJ.bel hb13) hb13 ⟨X13, c13, rfl, zAn own13 hJ.le.size⟩
    (try simp only [putA, zgd, zgf, zge, zgg])
    refine Det.flo (rP4 wo.heap.size ps) rfl rfl (fun _ _ _ h hb => rP4_bel h hb) ?_ ?_
    ·intro f w9 K hJ hR hK
     obtain ⟨X13, c13, h26, own13⟩ := hR (26, rP3 wo.heap.size ps) (by simp [addF, dropF]) (by show (26 : Nat) ∈ _; decide)
     simp only [h26] at hK ⊢
     have HK := Lib.hid hK
     clear hK hR h26
     have hle9 := hJ.le.size
     go_simp
     exact HK.out _ _ (hJ.bel (zAa _ _)) (zAa _ _) ⟨_, X13, c13, rfl, zAk _ rfl, zAe own13 (zAa _ _), hle9⟩
    (try simp only [putA, zgd, zgf, zge, zgg])
    refine Det.nil ?_
    intro f w9 hJ hR
    obtain ⟨X26, c26, h26, -⟩ := hR (26, rP3 wo.heap.size ps) (by simp [addF, dropF])
    obtain ⟨kk, X13, c13, h27, hb27, own13, hkk⟩ := hR (27, rP4 wo.heap.size ps) (by simp [addF, dropF])
    clear hR
    simp only [h26, h27]
    clear h26 h27
    have J1 := Lib.hid hJ
    clear hJ
    have hnb := zAm J1.out.tr.profs.own J1.out.tr.bx (by decide)
    show wpList _ _ _ (_ :: _ :: _ :: []) _ _
    at_builtin
    refine zAw rfl _ _ 28 rfl w.heap.size 31 iP (.agg #[.slice none 0 0]) 1 24 Tryz.underlying28 hiP hzaP hzbP hzcP rfl (by decide) (.slice R7 k cp7) k xs7 rfl J1.out.tr.profs.own (some ⟨kk, 0, none⟩) 1 1 [.slice X13 ps.length c13] rfl (Or.inr ⟨_, rfl⟩) (zAv (lo := 0) (e := 31) (own_lit (cs := [.slice X13 ps.length c13]) hb27 rfl (by decide) (Nat.zero_le _))) (by intro u hu; simp at hu; subst hu; rfl) (by unfold maxLen; omega) (by omega) J1.out.tr.bel.size ?_
    intro v15 w15 own15 hgr15 hne15 hat15
    obtain ⟨X15, c15, rfl, -⟩ := zAt own15
    have T4 := Lib.hid (J1.out.tr.app HPS.out own15 hgr15 own13 (by omega) HPL9.out (fun i y hi b hb hb2 => by have q1 := HXL.out i y hi b hb; have q2 := own_ge own13 b hb2; omega) (fun b hb hb2 => by have q1 := HXL2.out b hb2; have q2 := own_ge own13 b hb; omega))
    have X4 := Lib.hid (bx_set (a := ⟨bt, 3, none⟩) (zAr J1.out.x1 hgr15 (zAm J1.out.tr.profs.own J1.out.x1 (by decide))) (by show w.heap.size + 1 ≠ bt; omega) (.slice X15 (k + 1) c15))
    have b15 := zAr J1.out.tr.bx hgr15 hnb
    have e15 := zAb b15 3 rfl
    have f15 := zAh b15
    simp only [zgc, zga, zgb] at e15
    clear own15 hgr15 hne15 hat15 hb27 own13
    go_wp2
    go_light
    clear HXL HXL2 HPS HRD9 HLT9 HAD9 HPL9 cz9 e15 f15 b15 hnb hkk
    generalize w15.setCell _ _ = w4 at *
    exact ⟨⟨k + 1, X15, c15, _, by omega, by simp, T4.out, X4.out⟩, by simp [intOf]; omega⟩
   ·have hkn : k = np := by omega
    subst hkn
    have hlt' : ¬ (k : Int) < k := by omega
    have k0 := zAb T1.out.bx 0 rfl
    have k1 := zAb T1.out.bx 1 rfl
    have k2 := zAb T1.out.bx 2 rfl
    have k3 := zAb T1.out.bx 3 rfl
    have k4 := zAb T1.out.bx 4 rfl
    have f1 := zAh X1.out
    have x0 := zAb X1.out 0 rfl
    have x1 := zAb X1.out 1 rfl
    have x2 := zAb X1.out 2 rfl
    have x3 := zAb X1.out 3 rfl
    have x4 := zAb X1.out 4 rfl
    simp only [zgc, zga, zgb] at k0 k1 k2 k3 k4 x0 x1 x2 x3 x4
    go_wp2
    go_light
    refine bodyPost_ret (v := .agg #[.slice X3 n c3, .slice Y3 m d3, .slice X5 nu c5, .slice R7 k cp7, .slice X8 nl c8]) (by simp [results, Tryz.results177, go_sem, *]) rfl ?_
    have hd := T1.out.done L4.out H.out.n H.out.m hnu hnp H.out.nl
    exact ⟨⟨X3, Y3, X5, R7, X8, n, m, nu, k, nl, c3, d3, c5, cp7, c8⟩, rfl, ⟨xs7, hd.box5 X1.out _ _ _ _ _⟩, bel_set5 T1.out.bel (Nat.le_succ _) _ _ _ _ _⟩)
end Go.Proofs.YtnphjhbfpoekpaaGreat
