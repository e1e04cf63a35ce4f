import Derived.Test.YtnphjhbfpoekpaaGreatA18Ph
import Derived.Test.YtnphjhbfpoekpaaGreatA24Ph
import Derived.Deep.RegionHeld3
namespace Go.Proofs.YtnphjhbfpoekpaaGreat
set_option linter.unusedSimpArgs false
set_option linter.unusedVariables false
set_option linter.unnecessarySimpa false
open Go.RowKit
structure JP (w wr : World) (g b0 b : Nat) (A : Option Addr) (c : Nat) (ps : List Q) : Prop where
 bx : wr.heap[b]? = some (.cells #[.slice A ps.length c] 31 (0, 0))
 own : wr.ownsRow w.heap.size 177 4 (.slice A ps.length c) ps.length (flat ps)
 res : wr.heap[b0]? = some (.cells #[.slice none 0 0] 31 (0, 0))
 cur : Cur wr g
 fr : Fr (· = g) w wr
 hb : b0 < b ∧ w.heap.size ≤ b0 ∧ g < w.heap.size
theorem JP.bel {w wr w' : World} {g b0 b : Nat} {A : Option Addr} {c : Nat} {ps : List Q} (h : JP w wr g b0 b A c ps) (hb : Below wr.heap.size wr w') : JP w w' g b0 b A c ps :=
 ⟨zAf h.bx hb, zAe h.own hb, zAf h.res hb, h.cur.below hb, h.fr.of_bel hb, h.hb⟩
theorem JP.cs {w wr w' : World} {g b0 b : Nat} {A : Option Addr} {c : Nat} {ps : List Q} (h : JP w wr g b0 b A c ps) (hf : Fr (· = g) wr w') (hc : Cur w' g) : JP w w' g b0 b A c ps := by
 have hh := h.hb
 exact ⟨bx_fr h.bx hf (by omega), own_fr h.own hf (fun k hk e => by have := zAu h.own k hk; omega), bx_fr h.res hf (by omega), hc, h.fr.trans hf, hh⟩
theorem JP.far {w W0 wr : World} {g b0 b : Nat} {A : Option Addr} {c : Nat} {ps : List Q} (h0 : JP w W0 g b0 b A c ps) (h : JP w wr g b0 b A c ps) {p : Addr} (hp : W0.heap.size ≤ p.block) (v : Value) : JP w (wr.setCell p v) g b0 b A c ps := by
 have hh := h.hb
 have h1 := zAg h0.bx
 have h2 := zAg h0.res
 have h3 := h0.cur.lt
 have h4 := h0.fr.size
 exact ⟨bx_set h.bx (by omega) _, zAo h.own (fun k hk => by have := own_lt h0.own k hk; omega) _, bx_set h.res (by omega) _, h.cur.set (by omega) _, h.fr.setCell (Or.inr (by omega)) _, hh⟩
theorem JP.turn {w wr : World} {g b0 b : Nat} {A : Option Addr} {c : Nat} {ps : List Q} (h : JP w wr g b0 b A c ps) {U : Option Addr} {cu : Nat} {qs : List Q} (ho : wr.ownsRow w.heap.size 177 4 (.slice U qs.length cu) qs.length (flat qs)) : JP w (wr.setCell ⟨b, 0, none⟩ (.slice U qs.length cu)) g b0 b U cu qs := by
 have hh := h.hb
 refine ⟨by simpa using heap_set (i := 0) (v := .slice U qs.length cu) h.bx, zAo ho (zAk ho h.bx (by decide)) _, bx_set h.res (by show b0 ≠ b; omega) _, h.cur.set (by show g < b; omega) _, h.fr.setCell (Or.inr (by show w.heap.size ≤ b; omega)) _, hh⟩
theorem tkV_ok {ps : List Q} {lo hi : Int} {v : V} (h : takeB ps lo hi v = true) : tkV ps lo hi v = takeV ps lo hi v ∧ zAv (takeV ps lo hi v) = true ∧ (takeV ps lo hi v).length ≤ ps.length + 2 :=
 ⟨by unfold tkV; rw [h]; rfl, take_ok h, chg_len _ _ _ _⟩
set_option maxHeartbeats 8000000 in
set_option maxRecDepth 20000 in
theorem cur_prof (g : Nat) (w : World) (h : Cur w g) :
  Calls Tryz.prog 218 #[.pointer (some ⟨g, 0, none⟩)] w fun e w' => ∃ (A : Option Addr) (c : Nat) (ps : List Q), e = .returned (.agg #[.slice A ps.length c]) ∧ zAv ps = true ∧ ps.length ≤ 11 ∧ w'.ownsRow w.heap.size 177 4 (.slice A ps.length c) ps.length (flat ps) ∧ Cur w' g ∧ Fr (· = g) w w' := by
 have C := Lib.hid h
 have hgw := h.lt
 clear h
 go_enter Tryz.func218, Tryz.ntmps218
 go_wp2_with fail
 refine (sprofNew_any ⟨8, 16, 2⟩ _).mono ?_
 rintro e w1 ⟨u1, rfl, own1, hb1⟩
 have hs1 := hb1.size
 (try simp at hs1)
 have hy10 : w.heap.size < w1.heap.size := by omega
 have hk10 := fun o => hb1.cell (p := ⟨w.heap.size, o, none⟩) zOm
 have hg10 := fun o => hb1.frozen (p := ⟨w.heap.size, o, none⟩) zOm
 have hnp : newP ⟨8, 16, 2⟩ = [⟨0, 8, 16, 2⟩] := rfl
 rw [hnp] at own1
 clear hnp
 have own1' : w1.ownsRow _ 177 4 u1 ([⟨0, 8, 16, 2⟩] : List Q).length (flat [⟨0, 8, 16, 2⟩]) := own1
 clear own1
 obtain ⟨PS, hPS⟩ : ∃ p, p = ([⟨0, 8, 16, 2⟩] : List Q) := ⟨_, rfl⟩
 have hok0 : zAv PS = true := by rw [hPS]; decide
 have hl0 : PS.length ≤ 1 := by rw [hPS]; simp
 rw [← hPS] at own1'
 clear hPS
 obtain ⟨A1, c1, rfl, rd1⟩ := zAq own1'
 clear rd1
 have T0 : Hid (JP w (w1.alloc (.cells #[.slice A1 PS.length c1] 31)) g w.heap.size w1.heap.size A1 c1 PS) := Lib.hid (by
  have hal := zAa w1 (.cells #[.slice A1 PS.length c1] 31)
  refine ⟨zAj _ rfl, zAm (zAe own1' hal) (by simp), zAs (zAf (zAj _ rfl) hb1) _, (((C.out.alloc _).below hb1)).alloc _, ?_, by omega⟩
  exact (((Fr.refl _ w).alloc _).of_bel hb1).alloc _)
 clear own1' hb1 hk10 hg10
 go_upto_region 2 with fail
 obtain ⟨bb, hbb⟩ : ∃ k, k = w1.heap.size := ⟨_, rfl⟩
 rw [← hbb] at T0 ⊢
 generalize w1.alloc (.cells #[.slice A1 PS.length c1] 31) = w2 at *
 clear hbb hs1 hy10
 go_wp2_with fail
 refine (zAt g 6 _ T0.out.cur (by omega) (by omega)).mono ?_
 rintro e w3 ⟨k0', rfl, ka, kb, cu3, fr3⟩
 have T := Lib.hid (T0.out.cs fr3 cu3)
 clear fr3 cu3 T0
 have hbg : bb ≠ g := by have := T.out.hb; omega
 have hbgw : w.heap.size < bb := T.out.hb.1
 go_wp2
 go_loopw [5] (fun nv wr => ∃ (m : Int) (A : Option Addr) (c : Nat) (ps : List Q), 0 ≤ m ∧ m ≤ 5 ∧ nv = .int .i64 m ∧ 2 * m + ps.length ≤ 11 ∧ Hid (zAv ps = true) ∧ JP w wr g w.heap.size bb A c ps) (fun n _ => (intOf n).toNat)
 case atStart => exact ⟨k0', A1, c1, PS, ka, by omega, rfl, by omega, Lib.hid hok0, T.out⟩
 case round =>
  clear T hl0 hok0
  obtain ⟨m, A, c, ps, hm0, hm5, rfl, hpl, HOK, T'⟩ := hrel
  have T := Lib.hid T'
  clear T'
  by_cases hm : 0 < m
  ·go_wp2_with fail
   refine (zAt g 60 _ T.out.cur (by omega) (by omega)).mono ?_
   rintro e w6 ⟨lo9, rfl, la, lb, cu6, fr6⟩
   have J0 := Lib.hid (T.out.cs fr6 cu6)
   clear fr6 cu6 T
   have k0 := zAb J0.out.bx 0 rfl
   have kf := zAh J0.out.bx
   have hlb := zAg J0.out.bx
   simp only [zgc, zga, zgb] at k0
   have hgl := J0.out.cur.lt
   have hwl : IntKind.i64.wrap (lo9 + 1) = lo9 + 1 := IntWalk.i64_in _ (by omega)
   go_wp2_with fail
   go_region_held3 (fun w' => w'.cell? ⟨bb, 0, none⟩ = some (.slice A ps.length c)) (simp [go_sem, *, World.cell?_alloc_some, World.cell?_setCell_far, Nat.lt_add_right, Nat.ne_of_gt]) (first | (go_at_call 132; (with_reducible refine (zAt g 40 _ (by repeat (first | assumption | exact J0.out.cur | refine Cur.alloc ?_ _ | refine Cur.drewN ?_ _ | refine Cur.drew ?_)) (by omega) (by omega)).mono ?_); rintro e w21 ⟨x21, rfl, a21, q21, cu21, fr21⟩; have J21 := Lib.hid (JP.cs (by first | exact J0.out | exact J0.out.bel (zAa _ _) | exact J0.out.bel (zAd _ 1) | exact (J0.out.bel (zAd _ 1)).bel (zAa _ _)) fr21 cu21); have hs21 := fr21.size; (try simp at hs21); have hy21 : bb < w21.heap.size := (by omega); have hk21 := fun o => fr21.cell (b := bb) zOm hbg o; have hg21 := fun o => fr21.frozen (b := bb) zOm hbg o; (try (have hx210 : w6.heap.size < w21.heap.size := (by omega); have hm210 := fun o => fr21.cell (b := w6.heap.size) zOm (by omega) o; have hn210 := fun o => fr21.frozen (b := w6.heap.size) zOm (by omega) o)); have hw21 : IntKind.i64.wrap (lo9 + 1 + x21) = lo9 + 1 + x21 := IntWalk.i64_in _ (by omega); clear fr21) | (go_at_call 132; (with_reducible refine (zAt g 4 _ (by repeat (first | assumption | exact J21.out.cur | refine Cur.alloc ?_ _ | refine Cur.drewN ?_ _ | refine Cur.drew ?_)) (by omega) (by omega)).mono ?_); rintro e w22 ⟨x22, rfl, a22, q22, cu22, fr22⟩; have J22 := Lib.hid (JP.cs (by first | exact J21.out | exact J21.out.bel (zAa _ _) | exact J21.out.bel (zAd _ 1) | exact (J21.out.bel (zAd _ 1)).bel (zAa _ _)) fr22 cu22); have hs22 := fr22.size; (try simp at hs22); have hy22 : bb < w22.heap.size := (by omega); have hk22 := fun o => fr22.cell (b := bb) zOm hbg o; have hg22 := fun o => fr22.frozen (b := bb) zOm hbg o; (try (have hx220 : w6.heap.size < w22.heap.size := (by omega); have hm220 := fun o => fr22.cell (b := w6.heap.size) zOm (by omega) o; have hn220 := fun o => fr22.frozen (b := w6.heap.size) zOm (by omega) o)); (try (have hx221 : w21.heap.size < w22.heap.size := (by omega); have hm221 := fun o => fr22.cell (b := w21.heap.size) zOm (by omega) o; have hn221 := fun o => fr22.frozen (b := w21.heap.size) zOm (by omega) o)); clear fr22) | (go_at_call 132; (with_reducible refine (zAt g 6 _ (by repeat (first | assumption | exact J22.out.cur | refine Cur.alloc ?_ _ | refine Cur.drewN ?_ _ | refine Cur.drew ?_)) (by omega) (by omega)).mono ?_); rintro e w23 ⟨x23, rfl, a23, q23, cu23, fr23⟩; have J23 := Lib.hid (JP.cs (by first | exact J22.out | exact J22.out.bel (zAa _ _) | exact J22.out.bel (zAd _ 1) | exact (J22.out.bel (zAd _ 1)).bel (zAa _ _)) fr23 cu23); have hs23 := fr23.size; (try simp at hs23); have hy23 : bb < w23.heap.size := (by omega); have hk23 := fun o => fr23.cell (b := bb) zOm hbg o; have hg23 := fun o => fr23.frozen (b := bb) zOm hbg o; (try (have hx230 : w6.heap.size < w23.heap.size := (by omega); have hm230 := fun o => fr23.cell (b := w6.heap.size) zOm (by omega) o; have hn230 := fun o => fr23.frozen (b := w6.heap.size) zOm (by omega) o)); (try (have hx231 : w21.heap.size < w23.heap.size := (by omega); have hm231 := fun o => fr23.cell (b := w21.heap.size) zOm (by omega) o; have hn231 := fun o => fr23.frozen (b := w21.heap.size) zOm (by omega) o)); (try (have hx232 : w22.heap.size < w23.heap.size := (by omega); have hm232 := fun o => fr23.cell (b := w22.heap.size) zOm (by omega) o; have hn232 := fun o => fr23.frozen (b := w22.heap.size) zOm (by omega) o)); clear fr23) | (go_at_call 132; (with_reducible refine (zAt g 2 _ (by repeat (first | assumption | exact J23.out.cur | refine Cur.alloc ?_ _ | refine Cur.drewN ?_ _ | refine Cur.drew ?_)) (by omega) (by omega)).mono ?_); rintro e w24 ⟨x24, rfl, a24, q24, cu24, fr24⟩; have J24 := Lib.hid (JP.cs (by first | exact J23.out | exact J23.out.bel (zAa _ _) | exact J23.out.bel (zAd _ 1) | exact (J23.out.bel (zAd _ 1)).bel (zAa _ _)) fr24 cu24); have hs24 := fr24.size; (try simp at hs24); have hy24 : bb < w24.heap.size := (by omega); have hk24 := fun o => fr24.cell (b := bb) zOm hbg o; have hg24 := fun o => fr24.frozen (b := bb) zOm hbg o; (try (have hx240 : w6.heap.size < w24.heap.size := (by omega); have hm240 := fun o => fr24.cell (b := w6.heap.size) zOm (by omega) o; have hn240 := fun o => fr24.frozen (b := w6.heap.size) zOm (by omega) o)); (try (have hx241 : w21.heap.size < w24.heap.size := (by omega); have hm241 := fun o => fr24.cell (b := w21.heap.size) zOm (by omega) o; have hn241 := fun o => fr24.frozen (b := w21.heap.size) zOm (by omega) o)); (try (have hx242 : w22.heap.size < w24.heap.size := (by omega); have hm242 := fun o => fr24.cell (b := w22.heap.size) zOm (by omega) o; have hn242 := fun o => fr24.frozen (b := w22.heap.size) zOm (by omega) o)); (try (have hx243 : w23.heap.size < w24.heap.size := (by omega); have hm243 := fun o => fr24.cell (b := w23.heap.size) zOm (by omega) o; have hn243 := fun o => fr24.frozen (b := w23.heap.size) zOm (by omega) o)); clear fr24) | (go_at_call 151; (with_reducible refine (stake_any A ps.length c ps lo9 (lo9 + 1 + x21) ⟨x22, x23, x24⟩ _ (by omega) (zAn (by first | exact J24.out.own | exact zAe J24.out.own (zAa _ _))) (zAz (by first | exact J24.out.own | exact zAe J24.out.own (zAa _ _)))).mono ?_); rintro e w25 ⟨u25, rfl, own25, hb25⟩; obtain ⟨U, cu, rfl, ru⟩ := zAq own25; clear ru; have OW := Lib.hid own25; have OG := Lib.hid (zAu own25); have OL := Lib.hid (own_lt own25); clear own25; have J25 := Lib.hid (JP.bel (by first | exact J24.out | exact J24.out.bel (zAa _ _)) hb25); have hs25 := hb25.size; (try simp at hs25); have hy25 : bb < w25.heap.size := (by omega); have hk25 := fun o => hb25.cell (p := ⟨bb, o, none⟩) zOm; have hg25 := fun o => hb25.frozen (p := ⟨bb, o, none⟩) zOm; (try (have hx250 : w6.heap.size < w25.heap.size := (by omega); have hm250 := fun o => hb25.cell (p := ⟨w6.heap.size, o, none⟩) zOm; have hn250 := fun o => hb25.frozen (p := ⟨w6.heap.size, o, none⟩) zOm)); (try (have hx251 : w21.heap.size < w25.heap.size := (by omega); have hm251 := fun o => hb25.cell (p := ⟨w21.heap.size, o, none⟩) zOm; have hn251 := fun o => hb25.frozen (p := ⟨w21.heap.size, o, none⟩) zOm)); (try (have hx252 : w22.heap.size < w25.heap.size := (by omega); have hm252 := fun o => hb25.cell (p := ⟨w22.heap.size, o, none⟩) zOm; have hn252 := fun o => hb25.frozen (p := ⟨w22.heap.size, o, none⟩) zOm)); (try (have hx253 : w23.heap.size < w25.heap.size := (by omega); have hm253 := fun o => hb25.cell (p := ⟨w23.heap.size, o, none⟩) zOm; have hn253 := fun o => hb25.frozen (p := ⟨w23.heap.size, o, none⟩) zOm)); (try (have hx254 : w24.heap.size < w25.heap.size := (by omega); have hm254 := fun o => hb25.cell (p := ⟨w24.heap.size, o, none⟩) zOm; have hn254 := fun o => hb25.frozen (p := ⟨w24.heap.size, o, none⟩) zOm)); clear hb25))
   ·have HT := Lib.hid (fun h : takeB ps lo9 (lo9 + 1 + x21) ⟨x22, x23, x24⟩ = true => tkV_ok h)
    obtain ⟨R, hR⟩ : ∃ R, R = tkV ps lo9 (lo9 + 1 + x21) ⟨x22, x23, x24⟩ := ⟨_, rfl⟩
    rw [← hR] at OW OG OL ⊢
    have HR := Lib.hid hR
    clear hR
    cases htk : takeB ps lo9 (lo9 + 1 + x21) ⟨x22, x23, x24⟩
    ·clear htk
     go_wp2
     go_roundw
     case rel => exact ⟨m - 1, A, c, ps, by omega, by omega, rfl, by omega, HOK, J25.out.bel (zAa _ _)⟩
     case measure => simp [intOf]; omega
    ·have HOR : Hid (zAv R = true) := Lib.hid (by rw [HR.out, (HT.out htk).1]; exact (HT.out htk).2.1)
     have hRl : R.length ≤ ps.length + 2 := by rw [HR.out, (HT.out htk).1]; exact (HT.out htk).2.2
     clear htk
     go_wp2
     go_roundw
     case rel => exact ⟨m - 1, U, cu, R, by omega, by omega, rfl, by omega, HOR, (JP.turn J25.out (zAm OW.out (by have := J24.out.fr.size; (try simp); omega))).bel (zAa _ _)⟩
     case measure => simp [intOf]; omega
   ·have HT := Lib.hid (fun h : takeB ps lo9 (lo9 + 1 + x21) ⟨x22, x23, x24⟩ = true => tkV_ok h)
    obtain ⟨R, hR⟩ : ∃ R, R = tkV ps lo9 (lo9 + 1 + x21) ⟨x22, x23, x24⟩ := ⟨_, rfl⟩
    rw [← hR] at OW OG OL ⊢
    have HR := Lib.hid hR
    clear hR
    cases htk : takeB ps lo9 (lo9 + 1 + x21) ⟨x22, x23, x24⟩
    ·clear htk
     go_wp2
     go_roundw
     case rel => exact ⟨m - 1, A, c, ps, by omega, by omega, rfl, by omega, HOK, J0.out.far J25.out (p := ⟨w24.heap.size, 0, none⟩) (by show w6.heap.size ≤ w24.heap.size; omega) _⟩
     case measure => simp [intOf]; omega
    ·have HOR : Hid (zAv R = true) := Lib.hid (by rw [HR.out, (HT.out htk).1]; exact (HT.out htk).2.1)
     have hRl : R.length ≤ ps.length + 2 := by rw [HR.out, (HT.out htk).1]; exact (HT.out htk).2.2
     clear htk
     go_wp2
     go_roundw
     case rel => exact ⟨m - 1, U, cu, R, by omega, by omega, rfl, by omega, HOR, JP.turn (J0.out.far J25.out (p := ⟨w24.heap.size, 0, none⟩) (by show w6.heap.size ≤ w24.heap.size; omega) _) (zAm (zAo (a := ⟨w24.heap.size, 0, none⟩) OW.out (fun k hk => by have h8 := OG.out k hk; have h9 := OL.out k hk; (try simp at h8); show k ≠ w24.heap.size; omega) _) (by have := J24.out.fr.size; (try simp); omega))⟩
     case measure => simp [intOf]; omega
   ·have HT := Lib.hid (fun h : takeB ps lo9 (lo9 + 1 + x21) ⟨x22, x23, x24⟩ = true => tkV_ok h)
    obtain ⟨R, hR⟩ : ∃ R, R = tkV ps lo9 (lo9 + 1 + x21) ⟨x22, x23, x24⟩ := ⟨_, rfl⟩
    rw [← hR] at OW OG OL ⊢
    have HR := Lib.hid hR
    clear hR
    cases htk : takeB ps lo9 (lo9 + 1 + x21) ⟨x22, x23, x24⟩
    ·clear htk
     go_wp2
     go_roundw
     case rel => exact ⟨m - 1, A, c, ps, by omega, by omega, rfl, by omega, HOK, J0.out.far J25.out (p := ⟨w23.heap.size, 0, none⟩) (by show w6.heap.size ≤ w23.heap.size; omega) _⟩
     case measure => simp [intOf]; omega
    ·have HOR : Hid (zAv R = true) := Lib.hid (by rw [HR.out, (HT.out htk).1]; exact (HT.out htk).2.1)
     have hRl : R.length ≤ ps.length + 2 := by rw [HR.out, (HT.out htk).1]; exact (HT.out htk).2.2
     clear htk
     go_wp2
     go_roundw
     case rel => exact ⟨m - 1, U, cu, R, by omega, by omega, rfl, by omega, HOR, JP.turn (J0.out.far J25.out (p := ⟨w23.heap.size, 0, none⟩) (by show w6.heap.size ≤ w23.heap.size; omega) _) (zAm (zAo (a := ⟨w23.heap.size, 0, none⟩) OW.out (fun k hk => by have h8 := OG.out k hk; have h9 := OL.out k hk; (try simp at h8); show k ≠ w23.heap.size; omega) _) (by have := J24.out.fr.size; (try simp); omega))⟩
     case measure => simp [intOf]; omega
   ·have HT := Lib.hid (fun h : takeB ps lo9 (lo9 + 1 + x21) ⟨x22, x23, x24⟩ = true => tkV_ok h)
    obtain ⟨R, hR⟩ : ∃ R, R = tkV ps lo9 (lo9 + 1 + x21) ⟨x22, x23, x24⟩ := ⟨_, rfl⟩
    rw [← hR] at OW OG OL ⊢
    have HR := Lib.hid hR
    clear hR
    cases htk : takeB ps lo9 (lo9 + 1 + x21) ⟨x22, x23, x24⟩
    ·clear htk
     go_wp2
     go_roundw
     case rel => exact ⟨m - 1, A, c, ps, by omega, by omega, rfl, by omega, HOK, J0.out.far J25.out (p := ⟨w22.heap.size, 0, none⟩) (by show w6.heap.size ≤ w22.heap.size; omega) _⟩
     case measure => simp [intOf]; omega
    ·have HOR : Hid (zAv R = true) := Lib.hid (by rw [HR.out, (HT.out htk).1]; exact (HT.out htk).2.1)
     have hRl : R.length ≤ ps.length + 2 := by rw [HR.out, (HT.out htk).1]; exact (HT.out htk).2.2
     clear htk
     go_wp2
     go_roundw
     case rel => exact ⟨m - 1, U, cu, R, by omega, by omega, rfl, by omega, HOR, JP.turn (J0.out.far J25.out (p := ⟨w22.heap.size, 0, none⟩) (by show w6.heap.size ≤ w22.heap.size; omega) _) (zAm (zAo (a := ⟨w22.heap.size, 0, none⟩) OW.out (fun k hk => by have h8 := OG.out k hk; have h9 := OL.out k hk; (try simp at h8); show k ≠ w22.heap.size; omega) _) (by have := J24.out.fr.size; (try simp); omega))⟩
     case measure => simp [intOf]; omega
   ·have HT := Lib.hid (fun h : takeB ps lo9 (lo9 + 1 + x21) ⟨x22, x23, x24⟩ = true => tkV_ok h)
    obtain ⟨R, hR⟩ : ∃ R, R = tkV ps lo9 (lo9 + 1 + x21) ⟨x22, x23, x24⟩ := ⟨_, rfl⟩
    rw [← hR] at OW OG OL ⊢
    have HR := Lib.hid hR
    clear hR
    cases htk : takeB ps lo9 (lo9 + 1 + x21) ⟨x22, x23, x24⟩
    ·clear htk
     go_wp2
     go_roundw
     case rel => exact ⟨m - 1, A, c, ps, by omega, by omega, rfl, by omega, HOK, J0.out.far J25.out (p := ⟨w21.heap.size, 0, none⟩) (by show w6.heap.size ≤ w21.heap.size; omega) _⟩
     case measure => simp [intOf]; omega
    ·have HOR : Hid (zAv R = true) := Lib.hid (by rw [HR.out, (HT.out htk).1]; exact (HT.out htk).2.1)
     have hRl : R.length ≤ ps.length + 2 := by rw [HR.out, (HT.out htk).1]; exact (HT.out htk).2.2
     clear htk
     go_wp2
     go_roundw
     case rel => exact ⟨m - 1, U, cu, R, by omega, by omega, rfl, by omega, HOR, JP.turn (J0.out.far J25.out (p := ⟨w21.heap.size, 0, none⟩) (by show w6.heap.size ≤ w21.heap.size; omega) _) (zAm (zAo (a := ⟨w21.heap.size, 0, none⟩) OW.out (fun k hk => by have h8 := OG.out k hk; have h9 := OL.out k hk; (try simp at h8); show k ≠ w21.heap.size; omega) _) (by have := J24.out.fr.size; (try simp); omega))⟩
     case measure => simp [intOf]; omega
   ·have HT := Lib.hid (fun h : takeB ps lo9 (lo9 + 1 + x21) ⟨x22, x23, x24⟩ = true => tkV_ok h)
    obtain ⟨R, hR⟩ : ∃ R, R = tkV ps lo9 (lo9 + 1 + x21) ⟨x22, x23, x24⟩ := ⟨_, rfl⟩
    rw [← hR] at OW OG OL ⊢
    have HR := Lib.hid hR
    clear hR
    cases htk : takeB ps lo9 (lo9 + 1 + x21) ⟨x22, x23, x24⟩
    ·clear htk
     go_wp2
     go_roundw
     case rel => exact ⟨m - 1, A, c, ps, by omega, by omega, rfl, by omega, HOK, J0.out.far J25.out (p := ⟨w6.heap.size, 0, none⟩) (by show w6.heap.size ≤ w6.heap.size; omega) _⟩
     case measure => simp [intOf]; omega
    ·have HOR : Hid (zAv R = true) := Lib.hid (by rw [HR.out, (HT.out htk).1]; exact (HT.out htk).2.1)
     have hRl : R.length ≤ ps.length + 2 := by rw [HR.out, (HT.out htk).1]; exact (HT.out htk).2.2
     clear htk
     go_wp2
     go_roundw
     case rel => exact ⟨m - 1, U, cu, R, by omega, by omega, rfl, by omega, HOR, JP.turn (J0.out.far J25.out (p := ⟨w6.heap.size, 0, none⟩) (by show w6.heap.size ≤ w6.heap.size; omega) _) (zAm (zAo (a := ⟨w6.heap.size, 0, none⟩) OW.out (fun k hk => by have h8 := OG.out k hk; have h9 := OL.out k hk; (try simp at h8); show k ≠ w6.heap.size; omega) _) (by have := J24.out.fr.size; (try simp); omega))⟩
     case measure => simp [intOf]; omega
  ·skip
   have k0 := zAb T.out.bx 0 rfl
   have kf := zAh T.out.bx
   have hlb := zAg T.out.bx
   simp only [zgc, zga, zgb] at k0
   have r0 := zAb T.out.res 0 rfl
   have rf := zAh T.out.res
   simp only [zgc, zga, zgb] at r0
   go_wp2
   (try go_light)
   refine bodyPost_ret (v := .agg #[.slice A ps.length c]) (by simp [results, Tryz.results218, go_sem, *]) rfl ?_
   refine ⟨A, c, ps, rfl, HOK.out, by omega, ?_, ?_, ?_⟩
   ·exact zAo T.out.own (zAk T.out.own T.out.res (by decide)) _
   ·exact T.out.cur.set hgw _
   ·exact T.out.fr.setCell (Or.inr (Nat.le_refl _)) _
end Go.Proofs.YtnphjhbfpoekpaaGreat
