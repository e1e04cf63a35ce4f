import Derived.Test.YtnphjhbfpoekpaaGreatEaPh
import Derived.Test.YtnphjhbfpoekpaaGreatA20Ph
import Derived.Deep.RegionHeld3
namespace Go.Proofs.YtnphjhbfpoekpaaGreat
set_option linter.unusedSimpArgs false
set_option linter.unusedVariables false
set_option linter.unnecessarySimpa false
open Go.RowKit
structure TW (w wr : World) (g cap k : Nat) (zs : List Value) (O : Value) (ol : Nat) (out : List Int) : Prop where
 row : wr.ownsRow (w.heap.size + 1 + 1) 31 1 (.slice (some ⟨g, 0, none⟩) k cap) k zs
 out : wr.ownsRow w.heap.size 3 1 O ol (ints out)
 bel : Below w.heap.size w wr
theorem TW.step {w wr w' : World} {g cap k : Nat} {zs : List Value} {O : Value} {ol : Nat} {out : List Int} (h : TW w wr g cap k zs O ol out) (hb : Below wr.heap.size wr w') : TW w w' g cap k zs O ol out := ⟨zAe h.row hb, zAe h.out hb, zAc h.bel hb⟩
theorem TW.setO {w wr w' : World} {g cap k : Nat} {zs : List Value} {O O' : Value} {ol ol' : Nat} {out out' : List Int} (h : TW w wr g cap k zs O ol out) (hb : Below wr.heap.size wr w') (ho : w'.ownsRow wr.heap.size 3 1 O' ol' (ints out')) : TW w w' g cap k zs O' ol' out' :=
 ⟨zAe h.row hb, zAm ho h.bel.size, zAc h.bel hb⟩
theorem bd3 (w : World) (o o1 o2 : Obj) : Below w.heap.size w (((w.alloc o).alloc o1).alloc o2).drew := (zAc (zAc (zAc (Below.refl _ _) (zAa _ _)) (zAa _ _)) (zAa _ _)).drew
theorem bgr {w w0 w1 : World} {g a b : Nat} (h : Below w.heap.size w w0) (hg : w0.grownBy w1 (Value.slice (some ⟨g, 0, none⟩) a b).ownBlock) (hge : w.heap.size ≤ g) : Below w.heap.size w w1 := Below.grown h hg h.size (fun k hk => by cases hk; exact hge)
theorem ogr {w0 w1 : World} {lo g a b j : Nat} {xs : List Value} (h : w0.ownsRow lo 3 1 (.slice (some ⟨j, 0, none⟩) 1 1) 1 xs) (hg : w0.grownBy w1 (Value.slice (some ⟨g, 0, none⟩) a b).ownBlock) (hne : j < g) : w1.ownsRow lo 3 1 (.slice (some ⟨j, 0, none⟩) 1 1) 1 xs := zAx h hg (fun k hk e => by cases hk; cases e; omega)
theorem lit3 (w : World) (o o2 : Obj) (f : Int) : (((w.alloc o).alloc (.cells #[.int .i64 f] 3)).alloc o2).drew.ownsRow w.heap.size 3 1 (.slice (some ⟨w.heap.size + 1, 0, none⟩) 1 1) 1 (ints [f]) :=
 own_lit (cs := [.int .i64 f]) (bx_drew (zAs (zAj (w := w.alloc o) (.cells #[.int .i64 f] 3) (by simp)) _)) rfl (by decide) (by omega)
theorem lit4 (w : World) (o o2 o3 : Obj) (f : Int) : ((((w.alloc o).alloc (.cells #[.int .i64 f] 3)).alloc o2).alloc o3).drew.ownsRow w.heap.size 3 1 (.slice (some ⟨w.heap.size + 1, 0, none⟩) 1 1) 1 (ints [f]) :=
 own_lit (cs := [.int .i64 f]) (bx_drew (zAs (zAs (zAj (w := w.alloc o) (.cells #[.int .i64 f] 3) (by simp)) _) _)) rfl (by decide) (by omega)
theorem bd4 (w : World) (o o1 o2 o3 : Obj) : Below w.heap.size w ((((w.alloc o).alloc o1).alloc o2).alloc o3).drew := (zAc (zAc (zAc (zAc (Below.refl _ _) (zAa _ _)) (zAa _ _)) (zAa _ _)) (zAa _ _)).drew
set_option maxHeartbeats 16000000 in
set_option maxRecDepth 20000 in
theorem sTimes_any (a : RA) (r : Rm) (xs : List Value) (lo : Nat) (f : Int) (w : World) (h : RoomOwn w lo a r xs) (hok : r.okB = true) :
  Calls Tryz.prog 148 #[a.v, .int .i64 f] w fun e w' => ∃ v, e = .returned v ∧ w'.ownsRow w.heap.size 3 1 v (timesE r f).length (ints (timesE r f)) ∧ Below w.heap.size w w' := by
 obtain ⟨l1, l2, l3, l4, l5⟩ := h.rd.lens
 obtain ⟨q1, q2, q3, q4, q5⟩ := room_parts hok
 have hnp : a.np ≤ 24 := by have := (topo_parts q1).2.2.2.1; omega
 obtain ⟨A, B, U, R, L, n, m, nu, np, nl, c, d, cu, cp, cl⟩ := a
 dsimp only [RA.v]
 dsimp only at *
 have hX := own_addr h.profs.own
 have hplen : ∀ p ∈ r.profs ++ [r.lics], p.length ≤ 200 := by
  intro p hp
  rcases List.mem_append.1 hp with h1 | h1
  ·exact (profOk_parts (q4 p h1)).2.1
  ·simp at h1; subst h1; exact (profOk_parts q5).2.1
 have hnl : nl ≤ 200 := by rw [← l5]; exact (profOk_parts q5).2.1
 have hone := h.profs.pl.one
 have hpl := h.profs.pl.snoc (B := L) (c := cl) (ps := r.lics) (by omega) (by rw [l5]; exact zAn h.lics) (zAz h.lics)
 have H := Lib.hid h
 have HXX := Lib.hid hX
 have HONE := Lib.hid hone
 have HPLEN := Lib.hid hplen
 have HPL := Lib.hid hpl
 have L4 := Lib.hid l4
 have HRD := Lib.hid (zAn H.out.profs.own)
 have HRL := Lib.hid (zAz H.out.profs.own)
 have L5 := Lib.hid l5
 have hm9 : np ≤ 9223372036854775807 := by omega
 clear h hX hone hplen hpl l1 l2 l3 l4 l5 q1 q2 q3 q4 q5 hok
 obtain ⟨i0, hi, hz0, hz1, hz2⟩ := info_parts infoProf
 go_enter Tryz.func148, Tryz.ntmps148
 go_wp2_with fail
 go_region_held3 (fun w' => w'.cell? ⟨w.heap.size, 3, none⟩ = some (.slice R np cp) ∧ w'.cell? ⟨w.heap.size, 4, none⟩ = some (.slice L nl cl)) (first | (simp [go_sem, *, World.cell?_alloc_some, World.cell?_setCell_far, Nat.lt_add_right, Nat.ne_of_gt]; done) | (go_split_ands; refine ⟨?_, ?_⟩ <;> ((rw [hg3.cell_far _ (by simp <;> omega) (by simp [Value.ownBlock] <;> omega)]); assumption)) | (go_split_ands; refine ⟨?_, ?_⟩ <;> ((rw [hg3.cell_far _ (by simp <;> omega) (by simp [Value.ownBlock]; omega)]); assumption)) | (go_split_ands; trace_state; fail)) (((apply step_append_row (t := 28) (base := w.heap.size + 1 + 1) (e := 31) (i := i0) (z := .agg #[.slice none 0 0]) (size := 1) (bytes := 24) (ht := Tryz.underlying28) (hi := hi) (hz := hz0) (hsize := hz1) (hby := hz2) (hzs := rfl) (hsz := Nat.one_pos) (v := .slice (some ⟨_, 0, none⟩) _ _)); (case hgd => rfl); (case ho => rfl); (case hs => rfl); (case hx => rfl); (case hown => first | exact own3 | exact zAe own3 (zAa _ _) | exact own3z | exact zAe own3z (zAa _ _) | (refine own_lit (n := 0) (cs := []) ?_ rfl ?_ ?_ <;> first | (first | exact bx_drew (zAj _ (by simp)) | exact bx_drew (zAs (zAj _ (by simp)) _) | exact zAj _ (by simp) | exact zAs (zAj _ (by simp)) _) | decide | omega | (simp <;> omega))); (case hX => first | exact HXX.out | exact Or.inr ⟨_, rfl⟩); (case hrd => first | exact HRD.out.below HRL.out (bd3 _ _ _ _) | exact HRD.out.below HRL.out (bd4 _ _ _ _ _) | (refine zAn (lo := 0) (e := 31) (own_lit (cs := [.slice L nl cl]) ?_ rfl ?_ (Nat.zero_le _)) <;> first | (first | exact zAj _ rfl | exact zAp (bx_drew (zAj _ (by simp))) hg3 (fun k hk => by cases hk; simp) | exact zAp (bx_drew (zAs (zAj _ (by simp)) _)) hg3 (fun k hk => by cases hk; simp)) | decide)); (case h1 => first | exact HONE.out | (intro u hu; simp at hu; subst hu; rfl)); (case h63 => (unfold maxLen; omega)); (case hbytes => omega); (case hbase => first | omega | (simp <;> omega)); (intro v3 w3 own3 hg3 hne3 hat3); (obtain ⟨g3, cap3, rfl⟩ := own_form own3 (hne3 (fun h => by cases h))); (have hB3z : Below w.heap.size w w3 := by first | exact bgr (bd3 _ _ _ _) hg3 (by omega) | exact bgr (bd4 _ _ _ _ _) hg3 (by omega) | exact bgr hB3z hg3 (by omega) | exact bgr (zAc hB3z (zAa _ _)) hg3 (by omega)); (have hf3z : w3.ownsRow w.heap.size 3 1 (.slice (some ⟨w.heap.size + 1, 0, none⟩) 1 1) 1 (ints [f]) := by first | exact ogr (lit3 _ _ _ _) hg3 (by omega) | exact ogr (lit4 _ _ _ _ _) hg3 (by omega) | exact ogr hf3z hg3 (by omega) | exact ogr (zAe hf3z (zAa _ _)) hg3 (by omega)); (have hsz3 := hg3.size); (have hge3 := zAu own3 g3 rfl); (have own3z := own3); (try simp only [Nat.zero_add, List.nil_append] at own3); (try simp at hsz3; skip)))
 all_goals (try simp only [Nat.zero_add])
 all_goals have T0 : Hid (TW w w3 g3 cap3 (np + 1) (xs ++ [.slice L nl cl]) (.slice (some ⟨w.heap.size + 1, 0, none⟩) 1 1) 1 [f]) := Lib.hid ⟨own3, hf3z, hB3z⟩
 all_goals clear own3 own3z hf3z hB3z hg3 hat3 hne3 hsz3 hge3
 all_goals generalize g3 = gr at *
 all_goals generalize cap3 = cr at *
 all_goals generalize w3 = wq at *
 all_goals generalize w.heap.size + 1 = g1 at *
 all_goals clear HXX HONE HRD HRL hi hz0 hz1 hz2 H
 all_goals (
  go_wp2
  go_loopw [5, 21] (fun v5 i wr => ∃ (k : Nat) (O : Option Addr) (co ol : Nat) (out : List Int), k ≤ np + 1 ∧ i = .int .i64 k ∧ v5 = .slice O ol co ∧ out.length = ol ∧ Hid (out = tsK f (r.profs ++ [r.lics]) k) ∧ TW w wr gr cr (np + 1) (xs ++ [.slice L nl cl]) (.slice O ol co) ol out) (fun _ i _ => np + 1 - (intOf i).toNat)
  case atStart => exact ⟨0, _, 1, 1, [f], Nat.zero_le _, rfl, rfl, rfl, Lib.hid rfl, T0.out⟩
  case round =>
   clear T0
   obtain ⟨k, O, co, ol, out, hk, rfl, rfl, hol, HOUT, T'⟩ := hrel
   obtain ⟨wo, rfl⟩ : ∃ x, x = wr := ⟨wr, rfl⟩
   have T1 := Lib.hid T'
   clear T'
   by_cases hlt : k < np + 1
   ·have hlt' : (k : Int) < (np : Int) + 1 := by omega
    obtain ⟨ps, hps⟩ : ∃ p, (r.profs ++ [r.lics])[k]? = some p := ⟨_, zgh (by simp; have := L4.out; omega)⟩
    have hpl : ps.length ≤ 200 := HPLEN.out ps (List.mem_of_getElem? hps)
    obtain ⟨B', c', hz, _, hrd, hltB⟩ := (HPL.out.below T1.out.bel).each k ps hps
    rw [L5.out] at hz
    obtain ⟨g9, u9, hg9, hu9, cz9⟩ := Rd.at_ (zAn T1.out.row) hlt
    cases hg9
    rw [hz] at hu9
    obtain rfl := Option.some.inj hu9
    have HRDP := Lib.hid hrd
    have HLTB := Lib.hid hltB
    have HSN := Lib.hid (tsK_snoc (f := f) hps)
    have hk9 : (tsK f (r.profs ++ [r.lics]) k).length ≤ 1 + 25 * 200 := by
     have h1 := tsK_len (f := f) HPLEN.out k
     have h2 : k * 200 ≤ 25 * 200 := Nat.mul_le_mul_right _ (by omega)
     omega
    have HK9 := Lib.hid hk9
    clear hz hrd hltB hu9 hps hk9
    go_wp2
    go_loopw [5, 28] (fun v5 i wi => ∃ (ii : Nat) (O : Option Addr) (co ol : Nat) (out : List Int), ii ≤ ps.length ∧ i = .int .i64 ii ∧ v5 = .slice O ol co ∧ out.length = ol ∧ Hid (out = tsP f (tsK f (r.profs ++ [r.lics]) k) (ps.take ii)) ∧ TW w wi gr cr (np + 1) (xs ++ [.slice L nl cl]) (.slice O ol co) ol out ∧ Below wo.heap.size wo wi) (fun _ i _ => ps.length - (intOf i).toNat)
    case atStart => exact ⟨0, O, co, ol, out, Nat.zero_le _, rfl, rfl, hol, Lib.hid (by rw [List.take_zero]; exact HOUT.out), T1.out.step (zAa _ _), zAa _ _⟩
    case round =>
     clear T1
     obtain ⟨ii, O7, co7, ol7, out7, hii, rfl, rfl, hol7, HO7, T'', hb⟩ := hrel
     obtain ⟨wi, rfl⟩ : ∃ x, x = wr := ⟨wr, rfl⟩
     have T7 := Lib.hid T''
     have HBI := Lib.hid hb
     clear T'' hb
     have ho9 : ol7 ≤ 6000 := by
      have h1 := tsP_len f (ps.take ii) (tsK f (r.profs ++ [r.lics]) k)
      rw [← HO7.out, List.length_take] at h1
      have := HK9.out; omega
     by_cases hil : ii < ps.length
     ·have hil' : (ii : Int) < ps.length := by omega
      obtain ⟨gB, q, rfl, hq, d0, d1, d2, d3⟩ := Rd.q (HRDP.out.below HLTB.out HBI.out) hil
      have HTK := Lib.hid (tsP_snoc (f := f) (o := tsK f (r.profs ++ [r.lics]) k) hq)
      clear hq
      have T8 := Lib.hid (T7.out.step (zAa wi (.cells #[.int .i64 q.t, .int .i64 q.a, .int .i64 q.b, .int .i64 q.c] 177)))
      have HB8 := Lib.hid (zAc HBI.out (zAa wi (.cells #[.int .i64 q.t, .int .i64 q.a, .int .i64 q.b, .int .i64 q.c] 177)))
      by_cases hfq : f < q.t
      ·cases hh : hasZ out7 q.t
       ·have HHZ := Lib.hid hh
        have hr8 : (rise q.t out7).length = ol7 + 1 := by rw [rise_len, hol7]
        have HR8 := Lib.hid hr8
        have HE8 : Hid (rise q.t out7 = tsP f (tsK f (r.profs ++ [r.lics]) k) (ps.take (ii + 1))) := Lib.hid (by
         rw [HTK.out, ← HO7.out]; exact (tsF_yes hfq hh).symm)
        clear hh hr8 T7 HBI
        go_wp2_with fail
        refine (shas_any O7 ol7 co7 out7 q.t _ (by omega) (zAn T8.out.out)).mono ?_
        rintro e w9 ⟨rfl, rfl⟩
        rw [HHZ.out]
        go_wp2_with fail
        refine (sRise_any O7 ol7 co7 out7 q.t _ (by omega) (zAn T8.out.out) (zAz T8.out.out)).mono ?_
        rintro e w9 ⟨v9, rfl, own9, hb9⟩
        rw [HR8.out] at own9
        obtain ⟨O9, co9, rfl, _⟩ := zAq own9
        have T9 := Lib.hid (T8.out.setO hb9 own9)
        have HB9 := Lib.hid (zAc HB8.out hb9)
        clear own9 hb9 T8 HB8
        go_wp2
        go_roundw
        case rel => exact ⟨ii + 1, O9, co9, ol7 + 1, rise q.t out7, by omega, by go_num, rfl, HR8.out, HE8, T9.out, HB9.out⟩
        case measure => simp [intOf]; omega
       ·have HHZ := Lib.hid hh
        have HE8 : Hid (out7 = tsP f (tsK f (r.profs ++ [r.lics]) k) (ps.take (ii + 1))) := Lib.hid (by
         rw [HTK.out, ← HO7.out]; exact (tsF_no2 hh).symm)
        clear hh T7 HBI
        go_wp2_with fail
        refine (shas_any O7 ol7 co7 out7 q.t _ (by omega) (zAn T8.out.out)).mono ?_
        rintro e w9 ⟨rfl, rfl⟩
        rw [HHZ.out]
        go_wp2
        go_roundw
        case rel => exact ⟨ii + 1, O7, co7, ol7, out7, by omega, by go_num, rfl, hol7, HE8, T8.out, HB8.out⟩
        case measure => simp [intOf]; omega
      ·have HE8 : Hid (out7 = tsP f (tsK f (r.profs ++ [r.lics]) k) (ps.take (ii + 1))) := Lib.hid (by
        rw [HTK.out, ← HO7.out]; exact (tsF_no1 hfq).symm)
       clear T7 HBI
       go_wp2
       go_roundw
       case rel => exact ⟨ii + 1, O7, co7, ol7, out7, by omega, by go_num, rfl, hol7, HE8, T8.out, HB8.out⟩
       case measure => simp [intOf]; omega
     ·have HE9 : Hid (out7 = tsK f (r.profs ++ [r.lics]) (k + 1)) := Lib.hid (by
       have h1 := HO7.out
       have h2 : ps.take ii = ps := List.take_of_length_le (by omega)
       rw [h2, ← HSN.out] at h1; exact h1)
      go_wp2
      go_roundw
      case rel => exact ⟨k + 1, O7, co7, ol7, out7, by omega, by go_num, rfl, hol7, HE9, T7.out⟩
      case measure => simp [intOf]; omega
   ·have hfin : out = timesE r f := by
     have h1 : tsK f (r.profs ++ [r.lics]) k = tsA f (r.profs ++ [r.lics]) := by
      unfold tsK; rw [List.take_of_length_le (by simp; have := L4.out; omega)]; rfl
     rw [HOUT.out, h1, tsA_eq]
    have HFIN := Lib.hid hfin
    clear hfin
    go_wp2
    go_ret
    exact ⟨_, rfl, by rw [← HFIN.out, hol]; exact T1.out.out, T1.out.bel⟩)
end Go.Proofs.YtnphjhbfpoekpaaGreat
