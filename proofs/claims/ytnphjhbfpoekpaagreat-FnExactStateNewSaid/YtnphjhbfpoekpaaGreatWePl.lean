import Derived.Test.YtnphjhbfpoekpaaGreatWdPl
import Derived.Test.YtnphjhbfpoekpaaGreatA23Pl
import Derived.Test.YtnphjhbfpoekpaaGreatFjPl
namespace Go.Proofs.YtnphjhbfpoekpaaGreat
set_option linter.unusedSimpArgs false
set_option linter.unusedVariables false
set_option linter.unnecessarySimpa false
open Go.RowKit
set_option maxHeartbeats 8000000 in
set_option maxRecDepth 20000 in
theorem markRunS_fr (A : Option Addr) (n c lo : Nat) (k0 : Int) (ss : List Value) (hs : List Rn) (w : World) (hn : n ≤ 1048577) (hk0 : 0 ≤ k0) (hk1 : k0 ≤ 1099511627776) (h : OwnN w lo (.slice A n c) n ss hs) :
  Calls Tryz.prog 107 #[.slice A n c, .int .i64 k0] w fun e w' => (∃ K : Int, e = .returned (.int .i64 K) ∧ k0 ≤ K ∧ K ≤ k0 + 1048600 * (n : Int)) ∧ Fr (fun b => atB A b ∨ atX ss n b) w w' := by
 have hm : n ≤ 9223372036854775807 := by omega
 have H := Lib.hid h
 have W0 := Lib.hid (own_wr2 h.own)
 clear h
 go_enter Tryz.func107, Tryz.ntmps107
 go_wp2
 go_loopw [1, 5] (fun q i wr => ∃ (k : Nat) (K : Int), k ≤ n ∧ i = .int .i64 k ∧ q = .int .i64 K ∧ k0 ≤ K ∧ K ≤ k0 + 1048600 * (k : Int) ∧ Fr (fun b => atB A b ∨ atX ss k b) w wr ∧
   (0 < n → ∃ g cur, A = some ⟨g, 0, none⟩ ∧ wr.heap[g]? = some (.cells cur 136 (0, 0)) ∧ n * 13 ≤ cur.size ∧ Hid (∀ i x, ss[i]? = some x → cur[i * 13 + 12]? = some x))) (fun _ i _ => n - (intOf i).toNat)
 case atStart =>
  refine ⟨0, k0, Nat.zero_le _, rfl, rfl, by omega, by simp, Fr.refl _ _, fun h0 => ?_⟩
  obtain ⟨g, cur, hA, hg, hh, hsz⟩ := W0.out (by omega)
  refine ⟨g, cur, hA, hh, hsz, Lib.hid (fun i x hx => ?_)⟩
  have hi : i < n := by have := (List.getElem?_eq_some_iff.1 hx).1; have := H.out.slen; omega
  obtain ⟨g', p, X, d, hA', hp, hx', _, _, _, _, _, _, _, _, _, _, _, _, _, _, _, _, _, _, c2⟩ := H.out.rd.row hi
  rw [hA] at hA'
  cases hA'
  rw [hx] at hx'
  obtain rfl := Option.some.inj hx'
  simp only [World.cell?, hh] at c2
  simpa using c2
 case round =>
  obtain ⟨k, K, hk, rfl, rfl, hK0, hK1, hb, hcur⟩ := hrel
  by_cases hlt : k < n
  ·have hlt' : (k : Int) < n := by omega
   obtain ⟨g, cur, rfl, hh, hsz, hC⟩ := hcur (by omega)
   obtain ⟨g', p, X, d, hA', hp, hx, hl, _, _, _, _, hg, _, _, _, _, _, _, _, _, _, _, _, _, _⟩ := H.out.rd.row hlt
   cases hA'
   have ho := (H.out.each k _ p hx hp).2
   have c12 : wr.cell? ⟨g, k * 13 + 12, none⟩ = some (.slice X p.nd.length d) := by
    simp only [World.cell?, hh]
    simpa using hC.out k _ hx
   obtain ⟨o0, ho0⟩ := zAp (i := k * 13) hh (by omega)
   obtain ⟨o1, ho1⟩ := zAp (i := k * 13 + 1) hh (by omega)
   obtain ⟨o2, ho2⟩ := zAp (i := k * 13 + 2) hh (by omega)
   obtain ⟨o3, ho3⟩ := zAp (i := k * 13 + 3) hh (by omega)
   obtain ⟨o4, ho4⟩ := zAp (i := k * 13 + 4) hh (by omega)
   obtain ⟨o5, ho5⟩ := zAp (i := k * 13 + 5) hh (by omega)
   obtain ⟨o6, ho6⟩ := zAp (i := k * 13 + 6) hh (by omega)
   obtain ⟨o7, ho7⟩ := zAp (i := k * 13 + 7) hh (by omega)
   obtain ⟨o8, ho8⟩ := zAp (i := k * 13 + 8) hh (by omega)
   obtain ⟨o9, ho9⟩ := zAp (i := k * 13 + 9) hh (by omega)
   obtain ⟨o10, ho10⟩ := zAp (i := k * 13 + 10) hh (by omega)
   obtain ⟨o11, ho11⟩ := zAp (i := k * 13 + 11) hh (by omega)
   have hfz := zAh hh
   have b0 : 0 ≤ K := by omega
   have b1 : K + 12 + (p.nd.length : Int) ≤ 2305843009213693952 := by omega
   have HH := Lib.hid hh
   have HO := Lib.hid ho
   have HX := Lib.hid hx
   have HXG : Hid (∀ b, atB X b → b ≠ g) := Lib.hid (fun b hb e => own_ap HO.out H.out.own (by decide) b (atB_own' hb) (by rw [e]; rfl))
   have F2 : Hid (Fr (fun b => atB (some ⟨g, 0, none⟩) b ∨ atX ss k b) w ((((((((((((wr.setCell ⟨g, k * 13, none⟩ (.int .i64 (K))).setCell ⟨g, k * 13 + 1, none⟩ (.int .i64 (K + 1))).setCell ⟨g, k * 13 + 2, none⟩ (.int .i64 (K + 1 + 1))).setCell ⟨g, k * 13 + 3, none⟩ (.int .i64 (K + 1 + 1 + 1))).setCell ⟨g, k * 13 + 4, none⟩ (.int .i64 (K + 1 + 1 + 1 + 1))).setCell ⟨g, k * 13 + 5, none⟩ (.int .i64 (K + 1 + 1 + 1 + 1 + 1))).setCell ⟨g, k * 13 + 6, none⟩ (.int .i64 (K + 1 + 1 + 1 + 1 + 1 + 1))).setCell ⟨g, k * 13 + 7, none⟩ (.int .i64 (K + 1 + 1 + 1 + 1 + 1 + 1 + 1))).setCell ⟨g, k * 13 + 8, none⟩ (.int .i64 (K + 1 + 1 + 1 + 1 + 1 + 1 + 1 + 1))).setCell ⟨g, k * 13 + 9, none⟩ (.int .i64 (K + 1 + 1 + 1 + 1 + 1 + 1 + 1 + 1 + 1))).setCell ⟨g, k * 13 + 10, none⟩ (.int .i64 (K + 1 + 1 + 1 + 1 + 1 + 1 + 1 + 1 + 1 + 1))).setCell ⟨g, k * 13 + 11, none⟩ (.int .i64 (K + 1 + 1 + 1 + 1 + 1 + 1 + 1 + 1 + 1 + 1 + 1)))) := Lib.hid ((((((((((((hb.setCell (p := ⟨g, k * 13, none⟩) (Or.inl (Or.inl ⟨0, rfl⟩)) _).setCell (p := ⟨g, k * 13 + 1, none⟩) (Or.inl (Or.inl ⟨0, rfl⟩)) _).setCell (p := ⟨g, k * 13 + 2, none⟩) (Or.inl (Or.inl ⟨0, rfl⟩)) _).setCell (p := ⟨g, k * 13 + 3, none⟩) (Or.inl (Or.inl ⟨0, rfl⟩)) _).setCell (p := ⟨g, k * 13 + 4, none⟩) (Or.inl (Or.inl ⟨0, rfl⟩)) _).setCell (p := ⟨g, k * 13 + 5, none⟩) (Or.inl (Or.inl ⟨0, rfl⟩)) _).setCell (p := ⟨g, k * 13 + 6, none⟩) (Or.inl (Or.inl ⟨0, rfl⟩)) _).setCell (p := ⟨g, k * 13 + 7, none⟩) (Or.inl (Or.inl ⟨0, rfl⟩)) _).setCell (p := ⟨g, k * 13 + 8, none⟩) (Or.inl (Or.inl ⟨0, rfl⟩)) _).setCell (p := ⟨g, k * 13 + 9, none⟩) (Or.inl (Or.inl ⟨0, rfl⟩)) _).setCell (p := ⟨g, k * 13 + 10, none⟩) (Or.inl (Or.inl ⟨0, rfl⟩)) _).setCell (p := ⟨g, k * 13 + 11, none⟩) (Or.inl (Or.inl ⟨0, rfl⟩)) _)
   have HXK : ∀ b, atB X b → ¬ atX ss k b := by
    rintro b hb9 ⟨i, x', hi, hx', ho'⟩
    exact H.out.apart i k x' _ hi hx' HX.out b ho' (atB_own' hb9)
   have WX : Hid (Wr ((((((((((((wr.setCell ⟨g, k * 13, none⟩ (.int .i64 (K))).setCell ⟨g, k * 13 + 1, none⟩ (.int .i64 (K + 1))).setCell ⟨g, k * 13 + 2, none⟩ (.int .i64 (K + 1 + 1))).setCell ⟨g, k * 13 + 3, none⟩ (.int .i64 (K + 1 + 1 + 1))).setCell ⟨g, k * 13 + 4, none⟩ (.int .i64 (K + 1 + 1 + 1 + 1))).setCell ⟨g, k * 13 + 5, none⟩ (.int .i64 (K + 1 + 1 + 1 + 1 + 1))).setCell ⟨g, k * 13 + 6, none⟩ (.int .i64 (K + 1 + 1 + 1 + 1 + 1 + 1))).setCell ⟨g, k * 13 + 7, none⟩ (.int .i64 (K + 1 + 1 + 1 + 1 + 1 + 1 + 1))).setCell ⟨g, k * 13 + 8, none⟩ (.int .i64 (K + 1 + 1 + 1 + 1 + 1 + 1 + 1 + 1))).setCell ⟨g, k * 13 + 9, none⟩ (.int .i64 (K + 1 + 1 + 1 + 1 + 1 + 1 + 1 + 1 + 1))).setCell ⟨g, k * 13 + 10, none⟩ (.int .i64 (K + 1 + 1 + 1 + 1 + 1 + 1 + 1 + 1 + 1 + 1))).setCell ⟨g, k * 13 + 11, none⟩ (.int .i64 (K + 1 + 1 + 1 + 1 + 1 + 1 + 1 + 1 + 1 + 1 + 1))) lo X (p.nd.length * 1) 3) := Lib.hid ((own_wr2 HO.out).fr F2.out (by
    rintro b hb9 (⟨o, ho9⟩ | h9)
    ·cases ho9; exact HXG.out _ hb9 rfl
    ·exact HXK b hb9 h9))
   have HG : Hid (((((((((((((wr.setCell ⟨g, k * 13, none⟩ (.int .i64 (K))).setCell ⟨g, k * 13 + 1, none⟩ (.int .i64 (K + 1))).setCell ⟨g, k * 13 + 2, none⟩ (.int .i64 (K + 1 + 1))).setCell ⟨g, k * 13 + 3, none⟩ (.int .i64 (K + 1 + 1 + 1))).setCell ⟨g, k * 13 + 4, none⟩ (.int .i64 (K + 1 + 1 + 1 + 1))).setCell ⟨g, k * 13 + 5, none⟩ (.int .i64 (K + 1 + 1 + 1 + 1 + 1))).setCell ⟨g, k * 13 + 6, none⟩ (.int .i64 (K + 1 + 1 + 1 + 1 + 1 + 1))).setCell ⟨g, k * 13 + 7, none⟩ (.int .i64 (K + 1 + 1 + 1 + 1 + 1 + 1 + 1))).setCell ⟨g, k * 13 + 8, none⟩ (.int .i64 (K + 1 + 1 + 1 + 1 + 1 + 1 + 1 + 1))).setCell ⟨g, k * 13 + 9, none⟩ (.int .i64 (K + 1 + 1 + 1 + 1 + 1 + 1 + 1 + 1 + 1))).setCell ⟨g, k * 13 + 10, none⟩ (.int .i64 (K + 1 + 1 + 1 + 1 + 1 + 1 + 1 + 1 + 1 + 1))).setCell ⟨g, k * 13 + 11, none⟩ (.int .i64 (K + 1 + 1 + 1 + 1 + 1 + 1 + 1 + 1 + 1 + 1 + 1))).heap[g]? = some (.cells _ 136 (0, 0))) := Lib.hid (zAq (zAq (zAq (zAq (zAq (zAq (zAq (zAq (zAq (zAq (zAq (zAq HH.out))))))))))))
   clear hp hx ho hh
   go_wp2_with fail
   refine (markIntG X p.nd.length d lo (K + 1 + 1 + 1 + 1 + 1 + 1 + 1 + 1 + 1 + 1 + 1 + 1) _ (by omega) (by omega) (by omega) WX.out).mono ?_
   rintro e w1 ⟨rfl, rd1, fr1⟩
   have hgl : g < wr.heap.size := zAf HH.out
   have HC1 : ∃ cur1, w1.heap[g]? = some (.cells cur1 136 (0, 0)) ∧ n * 13 ≤ cur1.size ∧ Hid (∀ i x, ss[i]? = some x → cur1[i * 13 + 12]? = some x) := by
    refine ⟨_, bx_fr HG.out fr1 (fun hb9 => HXG.out _ hb9 rfl), by simpa using hsz, Lib.hid (fun i x hx9 => ?_)⟩
    simp only [Array.getElem?_setIfInBounds, Array.size_setIfInBounds]
    rw [if_neg (by omega), if_neg (by omega), if_neg (by omega), if_neg (by omega), if_neg (by omega), if_neg (by omega), if_neg (by omega), if_neg (by omega), if_neg (by omega), if_neg (by omega), if_neg (by omega), if_neg (by omega)]
    exact hC.out i x hx9
   have HC2 := Lib.hid HC1
   have FF : Hid (Fr (fun b => atB (some ⟨g, 0, none⟩) b ∨ atX ss (k + 1) b) w w1) := Lib.hid ((F2.out.mono (by
    rintro b (h9 | ⟨i, x', hi, h1, h2⟩)
    ·exact Or.inl h9
    ·exact Or.inr ⟨i, x', by omega, h1, h2⟩)).trans (fr1.mono (fun b hb9 => Or.inr ⟨k, _, by omega, HX.out, atB_own' hb9⟩)))
   clear rd1 fr1 HC1 hb hC hcur HXK c12 ho0 ho1 ho2 ho3 ho4 ho5 ho6 ho7 ho8 ho9 ho10 ho11 hfz
   have b2 : 0 ≤ K + 1 + 1 + 1 + 1 + 1 + 1 + 1 + 1 + 1 + 1 + 1 + 1 + 1 * (p.nd.length : Int) := by omega
   go_wp2
   go_roundw
   case rel => exact ⟨k + 1, K + 1 + 1 + 1 + 1 + 1 + 1 + 1 + 1 + 1 + 1 + 1 + 1 + 1 * (p.nd.length : Int), by omega, by go_num, congrArg (Value.int IntKind.i64) (by omega), by omega, by push_cast; omega, FF.out, fun _ => by obtain ⟨cur1, q1, q2, q3⟩ := HC2.out; exact ⟨g, cur1, rfl, q1, q2, q3⟩⟩
   case measure => simp [intOf]; omega
  ·obtain rfl : k = n := by omega
   go_wp2
   go_ret
   exact ⟨⟨K, rfl, hK0, hK1⟩, hb⟩
set_option maxHeartbeats 1000000 in
theorem heldRunS_nil (A : Option Addr) (c : Nat) (k0 : Int) (w : World) :
  Calls Tryz.prog 126 #[.slice A 0 c, .int .i64 k0] w fun e w' => e = .returned (.int .i64 k0) ∧ w = w' := by
 go_enter Tryz.func126, Tryz.ntmps126
 go_wp2
 go_loop [1, 5] (fun q i => i = .int .i64 0 ∧ q = .int .i64 k0) (fun _ _ => 0)
 case atStart => exact ⟨rfl, rfl⟩
 case round =>
  obtain ⟨rfl, rfl⟩ := hrel
  go_wp2
  go_ret
  exact ⟨rfl, rfl⟩
end Go.Proofs.YtnphjhbfpoekpaaGreat
