import Derived.Test.YtnphjhbfpoekpaaGreatGaPh
import Derived.Test.YtnphjhbfpoekpaaGreatGbPh
import Derived.Test.YtnphjhbfpoekpaaGreatEdPh
import Derived.Test.YtnphjhbfpoekpaaGreatGzPh
namespace Go.Proofs.YtnphjhbfpoekpaaGreat
set_option linter.unusedSimpArgs false
set_option linter.unusedVariables false
set_option linter.unnecessarySimpa false
open Go Go.RowKit
def gBo : Value → World → Prop := fun u _ => ∃ x : Bool, u = .bool x
def gSl (g lo : Nat) : Value → World → Prop := fun u w => ∃ (k : Nat) (x : Bool), u = .slice (some ⟨k, 0, none⟩) 1 1 ∧ w.heap[k]? = some (.cells #[.bool x] 4 (0, 0)) ∧ g < k ∧ lo ≤ k
theorem gSl_fr {g lo : Nat} {u : Value} {w w' : World} (h : gSl g lo u w) (hf : Fr (· = g) w w') : gSl g lo u w' := by
 obtain ⟨k, x, h1, h2, h3, h4⟩ := h
 exact ⟨k, x, h1, bx_fr h2 hf (by show ¬ _ = _; omega), h3, h4⟩
theorem up_get {r : Rm} {j : J} {t : Int} {nd : List Int} {m : Nat} (h : r.up.length ≤ m) : ((resV r j t nd).getD noRm).up.length ≤ m := by
 cases hr : resV r j t nd with
 | none => simp [noRm]
 | some s =>
  unfold resV at hr
  split at hr
  ·obtain ⟨h1, h2, h3, e1, e2, e3, e4, hl, hn, ho⟩ := moved_some hr
   show s.up.length ≤ m
   first | (rw [e3]; exact h) | (rw [e4]; exact h) | (rw [e2]; exact h)
  ·cases hr
theorem RG.ret5c {w wr : World} {g b : Nat} {a : RA} {r : Rm} {xs : List Value} (h : RG w wr g b a r xs) (v0 v1 v2 v3 v4 : Value) : Cur (((((wr.setCell ⟨w.heap.size, 0, none⟩ v0).setCell ⟨w.heap.size, 1, none⟩ v1).setCell ⟨w.heap.size, 2, none⟩ v2).setCell ⟨w.heap.size, 3, none⟩ v3).setCell ⟨w.heap.size, 4, none⟩ v4) g :=
 ((((h.cur.set (p := ⟨w.heap.size, 0, none⟩) h.hb.1 _).set (p := ⟨w.heap.size, 1, none⟩) h.hb.1 _).set (p := ⟨w.heap.size, 2, none⟩) h.hb.1 _).set (p := ⟨w.heap.size, 3, none⟩) h.hb.1 _).set (p := ⟨w.heap.size, 4, none⟩) h.hb.1 _
theorem RG.ret5f {w wr : World} {g b : Nat} {a : RA} {r : Rm} {xs : List Value} (h : RG w wr g b a r xs) (v0 v1 v2 v3 v4 : Value) : Fr (· = g) w (((((wr.setCell ⟨w.heap.size, 0, none⟩ v0).setCell ⟨w.heap.size, 1, none⟩ v1).setCell ⟨w.heap.size, 2, none⟩ v2).setCell ⟨w.heap.size, 3, none⟩ v3).setCell ⟨w.heap.size, 4, none⟩ v4) :=
 ((((h.fr.setCell (p := ⟨w.heap.size, 0, none⟩) (Or.inr (Nat.le_refl _)) _).setCell (p := ⟨w.heap.size, 1, none⟩) (Or.inr (Nat.le_refl _)) _).setCell (p := ⟨w.heap.size, 2, none⟩) (Or.inr (Nat.le_refl _)) _).setCell (p := ⟨w.heap.size, 3, none⟩) (Or.inr (Nat.le_refl _)) _).setCell (p := ⟨w.heap.size, 4, none⟩) (Or.inr (Nat.le_refl _)) _
theorem newP_len (v : V) : (newP v).length ≤ 1 := by unfold newP; split <;> simp
set_option maxHeartbeats 16000000 in
set_option maxRecDepth 20000 in
theorem cur_room (g : Nat) (w : World) (h : Cur w g) :
  Calls Tryz.prog 188 #[.pointer (some ⟨g, 0, none⟩)] w fun e w' => ∃ a : RA, e = .returned (RA.v a) ∧ ∃ r : Rm, (r.few 9 ∧ r.up.length ≤ 10) ∧ (∃ xs, RoomOwn w' w.heap.size a r xs) ∧ Cur w' g ∧ Fr (· = g) w w' := by
 have hgw := h.lt
 have C0 := Lib.hid (h.alloc (.cells #[.slice none 0 0, .slice none 0 0, .slice none 0 0, .slice none 0 0, .slice none 0 0] 33))
 have F0 := Lib.hid ((Fr.refl (· = g) w).alloc (.cells #[.slice none 0 0, .slice none 0 0, .slice none 0 0, .slice none 0 0, .slice none 0 0] 33))
 have XR0 : Hid ((w.alloc (.cells #[.slice none 0 0, .slice none 0 0, .slice none 0 0, .slice none 0 0, .slice none 0 0] 33)).heap[w.heap.size]? = some (.cells #[.slice none 0 0, .slice none 0 0, .slice none 0 0, .slice none 0 0, .slice none 0 0] 33 (0, 0))) := Lib.hid (zAj _ rfl)
 obtain ⟨iP, hiP, hzaP, hzbP, hzcP⟩ := info_parts infoProf
 obtain ⟨iB, hiB, hzaB, hzbB, hzcB⟩ := info_parts infoB
 clear h
 go_enter Tryz.func188, Tryz.ntmps188
 go_wp2_with fail
 refine (cur_topo g _ C0.out).mono ?_
 rintro e w1 ⟨A, B, c, d, ps, ns, rfl, hp1, hp2, hn2, oa, ob, cu1, fr1⟩
 have C1 := Lib.hid cu1
 have F1 := Lib.hid ((F0.out).trans fr1)
 have XR1 := Lib.hid (bx_fr (XR0.out) fr1 (by omega))
 clear cu1 fr1 C0 F0 XR0
 have hle1 : w.heap.size < w1.heap.size := zAg XR1.out
 have M0 : Hid (RG w ((w1.alloc (.cells #[.slice A ps.length c, .slice B ns.length d] 26)).alloc (.cells #[.slice A ps.length c, .slice B ns.length d, .slice none 0 0, .slice none 0 0, .slice none 0 0] 33)) g (w1.heap.size + 1) ⟨A, B, none, none, none, ps.length, ns.length, 0, 0, 0, c, d, 0, 0, 0⟩ ⟨ps, ns, [], [], []⟩ []) := Lib.hid
  ⟨zAj _ (by simp), ⟨by show ps.length ≤ _; omega, by show ns.length ≤ _; omega, Nat.zero_le _, Nat.zero_le _, Nat.zero_le _, zAm (zAe (zAe oa (zAa _ _)) (zAa _ _)) (by simp), zAm (zAe (zAe ob (zAa _ _)) (zAa _ _)) (by simp), own_nil _ _ _ _, OwnP.nil _ _, own_nil _ _ _ _, fun i x h => by simp at h⟩, (C1.out.alloc _).alloc _, (F1.out.alloc _).alloc _, ⟨hgw, by omega⟩, zAs (zAs XR1.out _) _⟩
 have BT : Hid (((w1.alloc (.cells #[.slice A ps.length c, .slice B ns.length d] 26)).alloc (.cells #[.slice A ps.length c, .slice B ns.length d, .slice none 0 0, .slice none 0 0, .slice none 0 0] 33)).heap[w1.heap.size]? = some (.cells #[.slice A ps.length c, .slice B ns.length d] 26 (0, 0))) := Lib.hid (zAs (zAj _ rfl) _)
 clear oa ob XR1 C1 F1
 have hn9 : ns.length ≤ 9223372036854775807 := by omega
 go_upto_region 3 with fail
 have t1 := zAb BT.out 1 rfl
 simp only [zgc, zga, zgb] at t1
 have tl := zAg BT.out
 clear BT
 obtain ⟨b, hb⟩ : ∃ b, b = w1.heap.size + 1 := ⟨_, rfl⟩
 simp only [← hb] at M0 ⊢
 clear hb
 generalize (w1.alloc (.cells #[.slice A ps.length c, .slice B ns.length d] 26)).alloc (.cells #[.slice A ps.length c, .slice B ns.length d, .slice none 0 0, .slice none 0 0, .slice none 0 0] 33) = w2 at *
 go_wp2
 go_loopw [21] (fun i wr => ∃ (k : Nat) (U R : Option Addr) (cu cp : Nat) (us : List Bool) (pss : List (List Q)) (xs : List Value), k ≤ ns.length ∧ i = .int .i64 k ∧ RG w wr g b ⟨A, B, U, R, none, ps.length, ns.length, k, k, 0, c, d, cu, cp, 0⟩ ⟨ps, ns, us, pss, []⟩ xs ∧ (∀ p ∈ pss, p.length ≤ 1)) (fun i _ => ns.length - (intOf i).toNat)
 case atStart => exact ⟨0, none, none, 0, 0, [], [], [], Nat.zero_le _, rfl, M0.out, by simp⟩
 case round =>
  clear M0 t1 tl
  obtain ⟨k, U, R, cu, cp, us, pss, xs, hk, rfl, T', hps⟩ := hrel
  obtain ⟨wo, rfl⟩ : ∃ x, x = wr := ⟨wr, rfl⟩
  have T1 := Lib.hid T'
  have HPS := Lib.hid hps
  clear T' hps
  have hbl := zAg T1.out.bx
  have hh := T1.out.hb
  by_cases hlt : k < ns.length
  ·have hlt' : (k : Int) < ns.length := by omega
   obtain ⟨g9, q, rfl, hq, d0, d1, d2, d3⟩ := (zAn T1.out.own.nodes).q hlt
   clear hq
   go_wp2_with fail
   refine (sprofNew_any ⟨q.a, q.b, q.c⟩ _).mono ?_
   rintro e w3 ⟨u3, rfl, own3, hb3⟩
   obtain ⟨X3, c3, rfl, -⟩ := zAq own3
   have B3 := Lib.hid (zAc (zAa wo (.cells #[.int .i64 q.t, .int .i64 q.a, .int .i64 q.b, .int .i64 q.c] 199)) hb3)
   have O3 := Lib.hid own3
   obtain ⟨pv, hpv⟩ : ∃ y, y = newP ⟨q.a, q.b, q.c⟩ := ⟨_, rfl⟩
   have hpl : pv.length ≤ 1 := by rw [hpv]; exact newP_len _
   have hs3 := B3.out.size
   rw [← hpv] at O3 ⊢
   generalize hok : V.ok ⟨q.a, q.b, q.c⟩ = vok
   clear hok hpv own3 hb3 d0 d1 d2 d3
   have T4 : Hid (RG w (w3.alloc (.cells #[.slice X3 pv.length c3] 31)) g b _ _ xs) := Lib.hid (T1.out.bel (zAc B3.out (zAa _ _)))
   have P4 : Hid ((w3.alloc (.cells #[.slice X3 pv.length c3] 31)).heap[w3.heap.size]? = some (.cells #[.slice X3 pv.length c3] 31 (0, 0))) := Lib.hid (zAj _ rfl)
   have O4 := Lib.hid (zAm (lo' := wo.heap.size) (zAe O3.out (zAa w3 (.cells #[.slice X3 pv.length c3] 31))) (by simp))
   have HXL : Hid (∀ (i : Nat) y, xs[i]? = some y → ∀ b, y.ownBlock = some b → b < wo.heap.size) := Lib.hid (fun i y hi b hb => T1.out.own.profs.ltx hi hb)
   clear O3 B3
   go_upto_region 7 with fail
   generalize w3.alloc (.cells #[.slice X3 pv.length c3] 31) = w4 at *
   generalize w3.heap.size = b3 at *
   have hwo := T1.out.fr.size
   clear T1
   have k0 := zAb T4.out.bx 0 rfl
   have k1 := zAb T4.out.bx 1 rfl
   have k2 := zAb T4.out.bx 2 rfl
   have k3 := zAb T4.out.bx 3 rfl
   have kf := zAh T4.out.bx
   have kl := zAg T4.out.bx
   simp only [zgc, zga, zgb] at k0 k1 k2 k3
   have p0 := zAb P4.out 0 rfl
   have pf := zAh P4.out
   have pl := zAg P4.out
   simp only [zgc, zga, zgb] at p0
   clear hbl hs3
   go_wp2_with (at_builtin; refine zAw rfl _ _ 28 rfl w.heap.size 31 iP (.agg #[.slice none 0 0]) 1 24 Tryz.underlying28 hiP hzaP hzbP hzcP rfl (by decide) (.slice R k cp) k xs rfl ?ca (some ⟨w4.heap.size, 0, none⟩) 1 1 [.slice X3 pv.length c3] rfl (Or.inr ⟨_, rfl⟩) ?cb ?cc ?cd ?ce ?cf ?_)
   case ca => exact zAe T4.out.own.profs.own (zAa _ _)
   case cb => exact zAn (own_lit (lo := 0) (cs := [.slice X3 pv.length c3]) (n := 1) (size := 1) (e := 31) (zAj _ rfl) rfl (by decide) (Nat.zero_le _))
   case cc => intro u hu; simp at hu; subst hu; rfl
   case cd => unfold maxLen; omega
   case ce => omega
   case cf => have := T4.out.fr.size; first | omega | (simp <;> omega)
   intro v5 w5 own5 hg5 hne5 hat5
   obtain ⟨X5, c5, rfl, -⟩ := zAq own5
   have T5 : Hid (RG w (w4.alloc (.cells #[.slice X3 pv.length c3] 31)) g b _ _ xs) := Lib.hid (T4.out.bel (zAa _ _))
   have T6 := Lib.hid (T5.out.app (x := .slice X3 pv.length c3) (ps := pv) (lo := wo.heap.size) (by show k + 1 ≤ _; omega) (by omega) own5 hg5 (zAe O4.out (zAa _ _)) hwo HXL.out (fun b9 hb9 => by obtain ⟨o, ho⟩ := hb9; cases ho))
   have hx5 := zAp T5.out.bx hg5 (zAk T5.out.own.profs.own T5.out.bx (by decide))
   have e5 := zAb hx5 3 rfl
   have f5 := zAh hx5
   have l5 := zAg hx5
   simp only [zgc, zga, zgb] at e5
   clear hx5 own5 hg5 hne5 hat5 T4 T5 P4 k0 k1 k2 k3 kf kl p0 pf pl
   have HPS6 : Hid (∀ p ∈ pss ++ [pv], p.length ≤ 1) := Lib.hid (fun p hp => by
    rcases List.mem_append.1 hp with h | h
    ·exact HPS.out p h
    ·simp at h; subst h; exact hpl)
   go_upto_region 8 with fail
   clear e5 f5 l5 HXL O4
   generalize w5.setCell ⟨b, 3, none⟩ (.slice X5 (k + 1) c5) = w6 at *
   refine wp_region_tail 6 (fun w9 => RG w w9 g b ⟨A, some ⟨g9, 0, none⟩, U, X5, none, ps.length, ns.length, k, k + 1, 0, c, d, cu, c5, 0⟩ ⟨ps, ns, us, pss ++ [pv], []⟩ (xs ++ [.slice X3 pv.length c3])) (fun a b => Fr (· = g) a b) (by kernel_rfl) (by kernel_rfl) (T6.out.bel ((Below.refl _ w6).drew)) ?_
   show Det _ _ _ _ _ _ (_ :: _ :: _ :: _ :: _ :: _ :: []) _ _
   refine Det.val ?_ rfl ?_ (fun _ => Fr.refl _ _) ?_
   rotate_left
   ·intro f w9 hJ
    skip
    go_simp
    with_reducible rfl
   (try simp only [putA, zgd, zgf, zge, zgg])
   refine Det.val ?_ rfl ?_ (fun _ => Fr.refl _ _) ?_
   rotate_left
   ·intro f w9 hJ
    have e9 := hJ.bx; have x2 := zAb e9 2 rfl; have xf := zAh e9; simp only [zgc, zga, zgb] at x2; clear e9
    go_simp
    with_reducible rfl
   (try simp only [putA, zgd, zgf, zge, zgg])
   refine Det.val ?_ rfl ?_ (fun _ => Fr.refl _ _) ?_
   rotate_left
   ·intro f w9 hJ
    skip
    go_simp
    with_reducible rfl
   (try simp only [putA, zgd, zgf, zge, zgg])
   refine Det.flo (rI 0 7) rfl rfl (fun _ _ _ h hb => h) ?_ ?_
   ·intro f w9 K hJ hR hK
    have HK := Lib.hid hK
    clear hK hR
    go_simp
    go_at_call 132
    refine (zAt g 8 _ hJ.cur (by omega) (by omega)).mono ?_
    rintro e w10 ⟨x, rfl, h0, h1, cu9, fr9⟩
    exact HK.out _ _ (hJ.cs fr9 cu9) fr9 ⟨x, rfl, by omega, by omega⟩
   (try simp only [putA, zgd, zgf, zge, zgg])
   refine Det.flo (gBo) rfl rfl (fun _ _ _ h hb => h) ?_ ?_
   ·intro f w9 K hJ hR hK
    obtain ⟨x9, h9, -, -⟩ := hR (40, rI 0 7) (by simp [addF, dropF]) (by show (40 : Nat) ∈ _; decide)
    simp only [h9] at hK ⊢
    have HK := Lib.hid hK
    clear hK hR h9
    go_simp
    exact HK.out _ _ hJ (Fr.refl _ _) ⟨_, rfl⟩
   (try simp only [putA, zgd, zgf, zge, zgg])
   refine Det.flo (gSl g w.heap.size) rfl rfl (fun _ _ _ h hb => gSl_fr h hb) ?_ ?_
   ·intro f w9 K hJ hR hK
    obtain ⟨x9, h9⟩ := hR (41, gBo) (by simp [addF, dropF]) (by show (41 : Nat) ∈ _; decide)
    simp only [h9] at hK ⊢
    have HK := Lib.hid hK
    clear hK hR h9
    have hlo := hJ.fr.size
    have hlg := hJ.cur.lt
    go_simp
    exact HK.out _ _ (hJ.bel (zAa _ _)) (Fr.of_below _ (zAa _ _)) ⟨_, x9, rfl, zAj _ rfl, hlg, hlo⟩
   (try simp only [putA, zgd, zgf, zge, zgg])
   refine Det.nil ?_
   intro f w9 hJ hR
   obtain ⟨k9, x9, h42, hk9, -, -⟩ := hR (42, gSl g w.heap.size) (by simp [addF, dropF])
   clear hR T6
   simp only [h42]
   clear h42
   have T7 := Lib.hid hJ
   clear hJ
   show wpList _ _ _ (_ :: _ :: _ :: []) _ _
   at_builtin
   refine zAw rfl _ _ 27 rfl w.heap.size 4 iB (.bool false) 1 1 Tryz.underlying27 hiB hzaB hzbB hzcB rfl (by decide) (.slice U k cu) k (bools us) rfl T7.out.own.up (some ⟨k9, 0, none⟩) 1 1 [.bool x9] rfl (Or.inr ⟨_, rfl⟩) (zAn (own_lit (lo := 0) (cs := [.bool x9]) (n := 1) (size := 1) (e := 4) hk9 rfl (by decide) (Nat.zero_le _))) (fun u hu => by simp at hu; subst hu; rfl) (by unfold maxLen; omega) (by omega) T7.out.fr.size ?_
   intro v8 w8 own8 hg8 hne8 hat8
   obtain ⟨X8, c8, rfl, -⟩ := zAq own8
   have T8 := Lib.hid (T7.out.up (x := x9) (by show k + 1 ≤ _; omega) own8 hg8)
   have hx8 := zAp T7.out.bx hg8 (zAk T7.out.own.up T7.out.bx (by decide))
   have e8 := zAb hx8 2 rfl
   have f8 := zAh hx8
   have l8 := zAg hx8
   simp only [zgc, zga, zgb] at e8
   clear hx8 own8 hg8 hne8 hat8 T7 hk9
   go_upto_region 9 with fail
   clear e8 f8 l8
   generalize w8.setCell ⟨b, 2, none⟩ (.slice X8 (k + 1) c8) = wz at *
   go_wp2
   exact ⟨⟨k + 1, X8, X5, c8, c5, us ++ [x9], pss ++ [pv], _, by omega, by simp, T8.out, HPS6.out⟩, by simp [intOf]; omega⟩
  ·have hlt' : ¬ (k : Int) < ns.length := by omega
   go_wp2_with fail
   refine (sprofNew_any ⟨4, 2, 1⟩ _).mono ?_
   rintro e w3 ⟨u3, rfl, own3, hb3⟩
   obtain ⟨X3, c3, rfl, -⟩ := zAq own3
   obtain ⟨pv, hpv⟩ : ∃ y, y = newP ⟨4, 2, 1⟩ := ⟨_, rfl⟩
   have hpl : pv.length ≤ 1 := by rw [hpv]; exact newP_len _
   rw [← hpv] at own3 ⊢
   clear hpv
   have T3 := Lib.hid (T1.out.bel hb3)
   have T4 := Lib.hid (T3.out.lic (l := pv) (X := X3) (cx := c3) own3 T1.out.fr.size (by omega) (fun i y hi b hb => T1.out.own.profs.ltx hi hb))
   have FW : Hid (Rm.few ⟨ps, ns, us, pss, pv⟩ 1) := Lib.hid ⟨HPS.out, hpl⟩
   have hul : us.length ≤ 10 := by have := T1.out.own.rd.lens.2.2.1; dsimp only at this; omega
   generalize hok : V.ok ⟨4, 2, 1⟩ = vok
   clear hok own3 hb3 T1
   have k0 := zAb T3.out.bx 0 rfl
   have k1 := zAb T3.out.bx 1 rfl
   have k2 := zAb T3.out.bx 2 rfl
   have k3 := zAb T3.out.bx 3 rfl
   have k4 := zAb T3.out.bx 4 rfl
   have kf := zAh T3.out.bx
   have kl := zAg T3.out.bx
   simp only [zgc, zga, zgb] at k0 k1 k2 k3 k4
   go_upto_region 11 with fail
   clear k0 k1 k2 k3 k4 kf kl T3 hbl
   generalize w3.setCell ⟨b, 4, none⟩ (.slice X3 pv.length c3) = w4 at *
   go_wp2_with fail
   refine (zAt g 5 _ T4.out.cur (by omega) (by omega)).mono ?_
   rintro e w5 ⟨x5, rfl, p5, q5, cu5, fr5⟩
   have T5 := Lib.hid (T4.out.cs fr5 cu5)
   clear cu5 fr5 T4
   go_wp2
   go_loopw [9] (fun i wr => ∃ (m : Int) (a : RA) (r : Rm) (xs : List Value) (fm : Nat), 0 ≤ m ∧ m ≤ 4 ∧ i = .int .i64 m ∧ RG w wr g b a r xs ∧ r.few fm ∧ r.up.length ≤ 10 ∧ (fm : Int) + 2 * m ≤ 9) (fun i _ => (intOf i).toNat)
   case atStart => exact ⟨x5, _, _, _, 1, p5, by omega, rfl, T5.out, FW.out, hul, by omega⟩
   case round =>
    clear T5 FW p5 q5 hul
    obtain ⟨m, a, r, xs, fm, m0, m4, rfl, T', hfw, hul2, hfm⟩ := hrel
    obtain ⟨wo, rfl⟩ : ∃ x, x = wr := ⟨wr, rfl⟩
    have T1 := Lib.hid T'
    have FW := Lib.hid hfw
    clear T' hfw
    obtain ⟨A, B, U, R, L, n, m1, nu, np, nl, c, d, cu, cp, cl⟩ := a
    have hbl := zAg T1.out.bx
    have hh := T1.out.hb
    by_cases hm : 0 < m
    ·go_wp2_with fail
     refine (cur_job g _ T1.out.cur).mono ?_
     rintro e w3 ⟨j, rfl, cu3, fr3⟩
     have T3 : Hid (RG w w3 g b ⟨A, B, U, R, L, n, m1, nu, np, nl, c, d, cu, cp, cl⟩ r xs) := Lib.hid (T1.out.cs fr3 cu3)
     clear T1 cu3 fr3 hbl
     have T4 : Hid (RG w (w3.alloc (.cells #[.int .i64 j.id, .int .i64 j.pr, .int .i64 j.nn, .int .i64 j.na, .int .i64 j.nb, .int .i64 j.nc, .int .i64 j.la, .int .i64 j.lb, .int .i64 j.lc, .int .i64 j.wl, .int .i64 j.lv] 95)) g b ⟨A, B, U, R, L, n, m1, nu, np, nl, c, d, cu, cp, cl⟩ r xs) := Lib.hid (T3.out.bel (zAa _ _))
     have J4 : Hid ((w3.alloc (.cells #[.int .i64 j.id, .int .i64 j.pr, .int .i64 j.nn, .int .i64 j.na, .int .i64 j.nb, .int .i64 j.nc, .int .i64 j.la, .int .i64 j.lb, .int .i64 j.lc, .int .i64 j.wl, .int .i64 j.lv] 95)).heap[w3.heap.size]? = some (.cells #[.int .i64 j.id, .int .i64 j.pr, .int .i64 j.nn, .int .i64 j.na, .int .i64 j.nb, .int .i64 j.nc, .int .i64 j.la, .int .i64 j.lb, .int .i64 j.lc, .int .i64 j.wl, .int .i64 j.lv] 95 (0, 0))) := Lib.hid (zAj _ rfl)
     have hgj : g < w3.heap.size := T3.out.cur.lt
     go_upto_region 15 with fail
     clear T3
     generalize w3.alloc (.cells #[.int .i64 j.id, .int .i64 j.pr, .int .i64 j.nn, .int .i64 j.na, .int .i64 j.nb, .int .i64 j.nc, .int .i64 j.la, .int .i64 j.lb, .int .i64 j.lc, .int .i64 j.wl, .int .i64 j.lv] 95) = w4 at *
     generalize w3.heap.size = bj at *
     have k0 := zAb T4.out.bx 0 rfl
     have k1 := zAb T4.out.bx 1 rfl
     have k2 := zAb T4.out.bx 2 rfl
     have k3 := zAb T4.out.bx 3 rfl
     have k4 := zAb T4.out.bx 4 rfl
     have kf := zAh T4.out.bx
     have kl := zAg T4.out.bx
     simp only [zgc, zga, zgb] at k0 k1 k2 k3 k4
     have v0 := zAb J4.out 0 rfl
     have v1 := zAb J4.out 1 rfl
     have v2 := zAb J4.out 2 rfl
     have v3 := zAb J4.out 3 rfl
     have v4 := zAb J4.out 4 rfl
     have v5 := zAb J4.out 5 rfl
     have v6 := zAb J4.out 6 rfl
     have v7 := zAb J4.out 7 rfl
     have v8 := zAb J4.out 8 rfl
     have v9 := zAb J4.out 9 rfl
     have v10 := zAb J4.out 10 rfl
     have vf := zAh J4.out
     have vl := zAg J4.out
     simp only [zgc, zga, zgb] at v0 v1 v2 v3 v4 v5 v6 v7 v8 v9 v10
     go_wp2_with fail
     go_region_held3 (fun w' => w'.cell? ⟨b, 0, none⟩ = some (.slice A n c) ∧ w'.cell? ⟨b, 1, none⟩ = some (.slice B m1 d) ∧ w'.cell? ⟨b, 2, none⟩ = some (.slice U nu cu) ∧ w'.cell? ⟨b, 3, none⟩ = some (.slice R np cp) ∧ w'.cell? ⟨b, 4, none⟩ = some (.slice L nl cl) ∧ w'.cell? ⟨bj, 0, none⟩ = some (.int .i64 j.id) ∧ w'.cell? ⟨bj, 1, none⟩ = some (.int .i64 j.pr) ∧ w'.cell? ⟨bj, 2, none⟩ = some (.int .i64 j.nn) ∧ w'.cell? ⟨bj, 3, none⟩ = some (.int .i64 j.na) ∧ w'.cell? ⟨bj, 4, none⟩ = some (.int .i64 j.nb) ∧ w'.cell? ⟨bj, 5, none⟩ = some (.int .i64 j.nc) ∧ w'.cell? ⟨bj, 6, none⟩ = some (.int .i64 j.la) ∧ w'.cell? ⟨bj, 7, none⟩ = some (.int .i64 j.lb) ∧ w'.cell? ⟨bj, 8, none⟩ = some (.int .i64 j.lc) ∧ w'.cell? ⟨bj, 9, none⟩ = some (.int .i64 j.wl) ∧ w'.cell? ⟨bj, 10, none⟩ = some (.int .i64 j.lv)) (simp [go_sem, *, World.cell?_alloc_some, World.cell?_setCell_far, Nat.lt_add_right, Nat.ne_of_gt]) (first | (go_at_call 132; refine (zAt g 20 _ (T4.out.cur.below (zAd _ 1)) (by omega) (by omega)).mono ?_; rintro e w5 ⟨x5, rfl, p5, q5, cu5, fr5⟩; have T5 := Lib.hid ((T4.out.bel (zAd _ 1)).cs fr5 cu5); have hs5 := fr5.size; (try simp at hs5); have hk5 := fun o => fr5.cell (b := b) zOm (by omega) o; have hj5 := fun o => fr5.cell (b := bj) zOm (by omega) o) | (go_at_call 62; refine (sEarliest_any ⟨A, B, U, R, L, n, m1, nu, np, nl, c, d, cu, cp, cl⟩ r xs _ j x5 _ T5.out.own).mono ?_; rintro e w6 ⟨u6, rfl, own6, hb6⟩; have T6 := Lib.hid (T5.out.bel hb6); have hs6 := hb6.size; (try simp at hs6); have hk6 := fun o => hb6.cell (p := ⟨b, o, none⟩) zOm; have hj6 := fun o => hb6.cell (p := ⟨bj, o, none⟩) zOm; obtain ⟨X6, c6, rfl, _⟩ := zAq own6))
     have J6 := Lib.hid (zAf (bx_fr (bx_drew J4.out) fr5 (by omega)) hb6)
     have O6 := Lib.hid own6
     obtain ⟨et, het⟩ : ∃ y, y = eT (earlV r j x5) := ⟨_, rfl⟩
     obtain ⟨el, hel⟩ : ∃ y, y = eL (earlV r j x5) := ⟨_, rfl⟩
     obtain ⟨eb, heb⟩ : ∃ y, y = (earlV r j x5).isSome := ⟨_, rfl⟩
     have hell : el.length ≤ 24 := by rw [hel]; exact earl_len9 r j x5
     rw [← hel] at O6 ⊢
     rw [← het, ← heb]
     clear het hel heb T4 T5 J4 k0 k1 k2 k3 k4 kf kl v0 v1 v2 v3 v4 v5 v6 v7 v8 v9 v10 vf vl fr5 cu5 hb6 own6 hk5 hj5 hk6 hj6 hs5 hs6
     have k0 := zAb T6.out.bx 0 rfl
     have k1 := zAb T6.out.bx 1 rfl
     have k2 := zAb T6.out.bx 2 rfl
     have k3 := zAb T6.out.bx 3 rfl
     have k4 := zAb T6.out.bx 4 rfl
     have kf := zAh T6.out.bx
     have kl := zAg T6.out.bx
     simp only [zgc, zga, zgb] at k0 k1 k2 k3 k4
     have v0 := zAb J6.out 0 rfl
     have v1 := zAb J6.out 1 rfl
     have v2 := zAb J6.out 2 rfl
     have v3 := zAb J6.out 3 rfl
     have v4 := zAb J6.out 4 rfl
     have v5 := zAb J6.out 5 rfl
     have v6 := zAb J6.out 6 rfl
     have v7 := zAb J6.out 7 rfl
     have v8 := zAb J6.out 8 rfl
     have v9 := zAb J6.out 9 rfl
     have v10 := zAb J6.out 10 rfl
     have vf := zAh J6.out
     have vl := zAg J6.out
     simp only [zgc, zga, zgb] at v0 v1 v2 v3 v4 v5 v6 v7 v8 v9 v10
     cases eb
     ·go_wp2
      exact ⟨⟨m - 1, _, _, _, fm, by omega, by omega, by go_num, T6.out, FW.out, hul2, by omega⟩, by simp [intOf]; omega⟩
     ·go_wp2_with fail
      refine (sReserve_any ⟨A, B, U, R, L, n, m1, nu, np, nl, c, d, cu, cp, cl⟩ r xs _ j X6 el.length c6 el _ T6.out.own (by omega) (own_cap9g O6.out).1 (own_cap9g O6.out).2 (zAn O6.out) (zAz O6.out) et).mono ?_
      rintro e w7 ⟨a7, rfl, ⟨xs7, ro7⟩, hb7⟩
      obtain ⟨A7, B7, U7, R7, L7, n7, m7, nu7, np7, nl7, c7, d7, cu7, cp7, cl7⟩ := a7
      dsimp only [RA.v]
      have T7 := Lib.hid (T6.out.bel hb7)
      have T8 := Lib.hid (T7.out.all ro7 T6.out.fr.size)
      have FW8 := Lib.hid (few_get (j := j) (t := et) (nd := el) FW.out)
      have hul8 := up_get (j := j) (t := et) (nd := el) hul2
      generalize (resV r j et el).isSome = rb at *
      clear ro7 hb7 k0 k1 k2 k3 k4 kf kl v0 v1 v2 v3 v4 v5 v6 v7 v8 v9 v10 vf vl T6 J6 O6
      have k0 := zAb T7.out.bx 0 rfl
      have k1 := zAb T7.out.bx 1 rfl
      have k2 := zAb T7.out.bx 2 rfl
      have k3 := zAb T7.out.bx 3 rfl
      have k4 := zAb T7.out.bx 4 rfl
      have kf := zAh T7.out.bx
      have kl := zAg T7.out.bx
      simp only [zgc, zga, zgb] at k0 k1 k2 k3 k4
      go_upto_region 13 with fail
      clear k0 k1 k2 k3 k4 kf kl T7
      generalize ((((w7.setCell ⟨b, 0, none⟩ (.slice A7 n7 c7)).setCell ⟨b, 1, none⟩ (.slice B7 m7 d7)).setCell ⟨b, 2, none⟩ (.slice U7 nu7 cu7)).setCell ⟨b, 3, none⟩ (.slice R7 np7 cp7)).setCell ⟨b, 4, none⟩ (.slice L7 nl7 cl7) = w8 at *
      go_wp2
      exact ⟨⟨m - 1, _, _, _, fm + 2, by omega, by omega, by go_num, T8.out, FW8.out, hul8, by omega⟩, by simp [intOf]; omega⟩
    ·have hm0 : m = 0 := by omega
     subst hm0
     have k0 := zAb T1.out.bx 0 rfl
     have k1 := zAb T1.out.bx 1 rfl
     have k2 := zAb T1.out.bx 2 rfl
     have k3 := zAb T1.out.bx 3 rfl
     have k4 := zAb T1.out.bx 4 rfl
     have kf := zAh T1.out.bx
     have kl := zAg T1.out.bx
     simp only [zgc, zga, zgb] at k0 k1 k2 k3 k4
     have z0 := zAb T1.out.z0 0 rfl
     have z1 := zAb T1.out.z0 1 rfl
     have z2 := zAb T1.out.z0 2 rfl
     have z3 := zAb T1.out.z0 3 rfl
     have z4 := zAb T1.out.z0 4 rfl
     have zf := zAh T1.out.z0
     have zl := zAg T1.out.z0
     simp only [zgc, zga, zgb] at z0 z1 z2 z3 z4
     go_wp2
     (try go_light)
     refine bodyPost_ret (v := .agg #[.slice A n c, .slice B m1 d, .slice U nu cu, .slice R np cp, .slice L nl cl]) (by simp [results, Tryz.results188, go_sem, *]) rfl ?_
     exact ⟨⟨A, B, U, R, L, n, m1, nu, np, nl, c, d, cu, cp, cl⟩, rfl, r, ⟨few_mono FW.out (by omega), hul2⟩, ⟨xs, T1.out.own.box5 T1.out.z0 _ _ _ _ _⟩, RG.ret5c T1.out _ _ _ _ _, RG.ret5f T1.out _ _ _ _ _⟩
end Go.Proofs.YtnphjhbfpoekpaaGreat
