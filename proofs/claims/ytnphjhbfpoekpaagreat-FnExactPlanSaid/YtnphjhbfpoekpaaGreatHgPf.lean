import Derived.Test.YtnphjhbfpoekpaaGreatHfPf
import Derived.Test.YtnphjhbfpoekpaaGreatFjPf
namespace Go.Proofs.YtnphjhbfpoekpaaGreat
set_option linter.unusedSimpArgs false
set_option linter.unusedVariables false
set_option linter.unnecessarySimpa false
open Go.RowKit
def hcnt (hs : List Hd) : Nat := (hs.map fun h => 2 + h.nd.length).sum
theorem hcnt_snoc {hs : List Hd} {k : Nat} {p : Hd} (h : hs[k]? = some p) : hcnt (hs.take (k + 1)) = hcnt (hs.take k) + (2 + p.nd.length) := by
 rw [zAv h]; simp [hcnt]
structure HM (w : World) (A : Option Addr) (n : Nat) (ss : List Value) (hs : List Hd) (k0 : Int) (k : Nat) : Prop where
 len : hs.length = n
 rl : ∀ g, A = some ⟨g, 0, none⟩ → g < w.heap.size
 each : ∀ (i : Nat) p, i < k → hs[i]? = some p → ∃ g X d, A = some ⟨g, 0, none⟩ ∧ ss[i]? = some (.slice X p.nd.length d) ∧ p.nd.length ≤ 1048576 ∧
  w.cell? ⟨g, i * 3, none⟩ = some (.int .i64 (k0 + (hcnt (hs.take i) : Int))) ∧ w.cell? ⟨g, i * 3 + 1, none⟩ = some (.int .i64 (k0 + (hcnt (hs.take i) : Int) + 1)) ∧ w.cell? ⟨g, i * 3 + 2, none⟩ = some (.slice X p.nd.length d) ∧
  Rd w X p.nd.length 1 (imarks (k0 + (hcnt (hs.take i) : Int) + 1 + 1) (p.nd.length * 1)) ∧ ∀ g', X = some ⟨g', 0, none⟩ → g' < w.heap.size
theorem hcnt_le (hs : List Hd) (k : Nat) : hcnt (hs.take k) ≤ hcnt hs := by
 have h9 : hcnt hs = hcnt (hs.take k) + hcnt (hs.drop k) := by
  unfold hcnt
  rw [List.map_take, List.map_drop]
  first | (rw [← List.sum_append, List.take_append_drop]; done) | (rw [← List.sum_append_nat, List.take_append_drop])
 omega
theorem HM.fr {S : Nat → Prop} {w w' : World} {A : Option Addr} {n : Nat} {ss : List Value} {hs : List Hd} {k0 : Int} {k : Nat} (h : HM w A n ss hs k0 k) (hb : Fr S w w') (h1 : ∀ b, atB A b → ¬ S b) (h2 : ∀ b, atX ss k b → ¬ S b) : HM w' A n ss hs k0 k :=
 ⟨h.len, fun g hg => Nat.lt_of_lt_of_le (h.rl g hg) hb.size, fun i p hi hp => by
  obtain ⟨g, X, d, hA, hs', hl, c0, c1, c2, hr, hX⟩ := h.each i p hi hp
  have hg := h.rl g hA
  have hn := h1 g ⟨0, hA⟩
  exact ⟨g, X, d, hA, hs', hl, (hb.cell hg hn _).trans c0, (hb.cell hg hn _).trans c1, (hb.cell hg hn _).trans c2, hr.fr hX hb (fun b hb2 => h2 b ⟨i, _, hi, hs', atB_own' hb2⟩), fun g' hg' => Nat.lt_of_lt_of_le (hX g' hg') hb.size⟩⟩
theorem HM.bel {w w' : World} {A : Option Addr} {n : Nat} {ss : List Value} {hs : List Hd} {k0 : Int} {k : Nat} (h : HM w A n ss hs k0 k) (hb : Below w.heap.size w w') : HM w' A n ss hs k0 k :=
 h.fr (Fr.of_below (fun _ => False) hb) (fun _ _ h => h) (fun _ _ h => h)
set_option maxHeartbeats 2000000 in
theorem heldHeldS_rd (A : Option Addr) (n c : Nat) (k0 : Int) (ss : List Value) (hs : List Hd) (w : World) (hn : n ≤ 1048577) (hk0 : 0 ≤ k0) (hk1 : k0 + (hcnt hs : Int) ≤ 1099511627776) (hp : HM w A n ss hs k0 n) :
  Calls Tryz.prog 49 #[.slice A n c, .int .i64 k0] w fun e w' => e = .returned (.int .i64 (k0 + (hcnt hs : Int))) ∧ w = w' := by
 have hm : n ≤ 9223372036854775807 := by omega
 have HP := Lib.hid hp
 have HTK : Hid (∀ k, hcnt (hs.take k) ≤ hcnt hs) := Lib.hid (fun k => by
  have h9 : hcnt hs = hcnt (hs.take k) + hcnt (hs.drop k) := by
   unfold hcnt
   rw [List.map_take, List.map_drop]
   first | (rw [← List.sum_append, List.take_append_drop]; done) | (rw [← List.sum_append_nat, List.take_append_drop])
  omega)
 clear hp hn
 go_enter Tryz.func49, Tryz.ntmps49
 go_wp2
 go_loop [1, 5] (fun q i => ∃ k : Nat, k ≤ n ∧ i = .int .i64 k ∧ q = .int .i64 (k0 + (hcnt (hs.take k) : Int))) (fun _ i => n - (intOf i).toNat)
 case atStart => exact ⟨0, Nat.zero_le _, rfl, by simp [hcnt]⟩
 case round =>
  obtain ⟨k, hk, rfl, rfl⟩ := hrel
  by_cases hlt : k < n
  ·have hlt' : (k : Int) < n := by omega
   obtain ⟨p, hps⟩ : ∃ p, hs[k]? = some p := ⟨_, zgh (by have := HP.out.len; omega)⟩
   obtain ⟨g, X, d, rfl, hs', hl, c0, c1, c2, hr, hX⟩ := HP.out.each k p hlt hps
   have h1 := HTK.out k
   have h2 := HTK.out (k + 1)
   have h3 := hcnt_snoc hps
   have HR := Lib.hid hr
   have H3 := Lib.hid h3
   obtain ⟨K, hK⟩ : ∃ y, y = k0 + (hcnt (hs.take k) : Int) := ⟨_, rfl⟩
   rw [← hK] at c0 c1 HR ⊢
   have b0 : 0 ≤ K := by omega
   have b1 : K + 2 + (p.nd.length : Int) ≤ 1099511627776 := by omega
   have HK := Lib.hid hK
   clear hK h1 h2 h3 hr hs' hX
   go_wp2_with fail
   refine (heldInt_any X p.nd.length d (K + 1 + 1) _ (by omega) (by omega) (by omega) HR.out).mono ?_
   rintro e w1 ⟨rfl, rfl⟩
   have b2 : 0 ≤ K + 1 + 1 + (p.nd.length : Int) := by omega
   go_wp2
   exact ⟨⟨k + 1, by omega, by go_num, congrArg (Value.int IntKind.i64) (by have q1 := HK.out; have q2 := H3.out; omega)⟩, by simp [intOf]; omega⟩
  ·obtain rfl : k = n := by omega
   have HL := HP.out.len
   rw [List.take_of_length_le (by omega)]
   go_wp2
   go_ret
   exact ⟨rfl, rfl⟩
set_option maxHeartbeats 4000000 in
theorem markHeldS_rd (A : Option Addr) (n c lo : Nat) (k0 : Int) (ss : List Value) (hs : List Hd) (w : World) (hn : n ≤ 1048577) (hk0 : 0 ≤ k0) (hk1 : k0 + (hcnt hs : Int) ≤ 1099511627776) (h : OwnH w lo (.slice A n c) n ss hs) :
  Calls Tryz.prog 48 #[.slice A n c, .int .i64 k0] w fun e w' => e = .returned (.int .i64 (k0 + (hcnt hs : Int))) ∧ HM w' A n ss hs k0 n ∧ Fr (fun b => atB A b ∨ atX ss n b) w w' := by
 have hm : n ≤ 9223372036854775807 := by omega
 have H := Lib.hid h
 have HTK : Hid (∀ k, hcnt (hs.take k) ≤ hcnt hs) := Lib.hid (fun k => hcnt_le hs k)
 have W0 := Lib.hid (own_wr2 h.own)
 clear hn h
 go_enter Tryz.func48, Tryz.ntmps48
 go_wp2
 go_loopw [1, 5] (fun q i wr => ∃ k : Nat, k ≤ n ∧ i = .int .i64 k ∧ q = .int .i64 (k0 + (hcnt (hs.take k) : Int)) ∧ Fr (fun b => atB A b ∨ atX ss k b) w wr ∧
   Hid (∀ i p X d, i < k → hs[i]? = some p → ss[i]? = some (.slice X p.nd.length d) → Rd wr X p.nd.length 1 (imarks (k0 + (hcnt (hs.take i) : Int) + 1 + 1) (p.nd.length * 1))) ∧
   (0 < n → ∃ g cur, A = some ⟨g, 0, none⟩ ∧ wr.heap[g]? = some (.cells cur 41 (0, 0)) ∧ n * 3 ≤ cur.size ∧ Hid ((∀ i x, ss[i]? = some x → cur[i * 3 + 2]? = some x) ∧ ∀ i, i < k → cur[i * 3]? = some (.int .i64 (k0 + (hcnt (hs.take i) : Int))) ∧ cur[i * 3 + 1]? = some (.int .i64 (k0 + (hcnt (hs.take i) : Int) + 1))))) (fun _ i _ => n - (intOf i).toNat)
 case atStart =>
  refine ⟨0, Nat.zero_le _, rfl, by simp [hcnt], Fr.refl _ _, Lib.hid (fun i p X d hi => absurd hi (by omega)), fun h0 => ?_⟩
  obtain ⟨g, cur, hA, hg, hh, hsz⟩ := W0.out (by omega)
  refine ⟨g, cur, hA, hh, hsz, Lib.hid ⟨fun i x hx => ?_, fun i hi => absurd hi (by omega)⟩⟩
  have hi : i < n := by have := (List.getElem?_eq_some_iff.1 hx).1; have := H.out.slen; omega
  obtain ⟨g', p, X, d, hA', hp, hx', _, _, _, _, _, c2⟩ := H.out.row hi
  rw [hA] at hA'
  cases hA'
  rw [hx] at hx'
  obtain rfl := Option.some.inj hx'
  simp only [World.cell?, hh] at c2
  simpa using c2
 case round =>
  obtain ⟨k, hk, rfl, rfl, hb, hN, hcur⟩ := hrel
  by_cases hlt : k < n
  ·have hlt' : (k : Int) < n := by omega
   obtain ⟨g, cur, rfl, hh, hsz, hC⟩ := hcur (by omega)
   obtain ⟨g', p, X, d, hA', hp, hx, hl, ho, hg, _, _, _⟩ := H.out.row hlt
   cases hA'
   have c2 : wr.cell? ⟨g, k * 3 + 2, none⟩ = some (.slice X p.nd.length d) := by
    simp only [World.cell?, hh]
    simpa using hC.out.1 k _ hx
   obtain ⟨o0, ho0⟩ := zAk (i := k * 3) hh (by omega)
   obtain ⟨o1, ho1⟩ := zAk (i := k * 3 + 1) hh (by omega)
   have hfz := zAs hh
   have h1 := HTK.out k
   have h2 := HTK.out (k + 1)
   have H3 := Lib.hid (hcnt_snoc hp)
   have h3 := H3.out
   obtain ⟨K, hK⟩ : ∃ y, y = k0 + (hcnt (hs.take k) : Int) := ⟨_, rfl⟩
   rw [← hK]
   have b0 : 0 ≤ K := by omega
   have b1 : K + 2 + (p.nd.length : Int) ≤ 1099511627776 := by omega
   have HK := Lib.hid hK
   have HH := Lib.hid hh
   have HO := Lib.hid ho
   have HPP := Lib.hid hp
   have HX := Lib.hid hx
   have hXg : ∀ b, atB X b → b ≠ g := fun b hb e => own_ap HO.out H.out.own (by decide) b (atB_own' hb) (by rw [e]; rfl)
   have HXG := Lib.hid hXg
   have F2 : Hid (Fr (fun b => atB (some ⟨g, 0, none⟩) b ∨ atX ss k b) w ((wr.setCell ⟨g, k * 3, none⟩ (.int .i64 K)).setCell ⟨g, k * 3 + 1, none⟩ (.int .i64 (K + 1)))) := Lib.hid ((hb.setCell (p := ⟨g, k * 3, none⟩) (Or.inl (Or.inl ⟨0, rfl⟩)) _).setCell (p := ⟨g, k * 3 + 1, none⟩) (Or.inl (Or.inl ⟨0, rfl⟩)) _)
   have F3 : Hid (Fr (fun b => b = g) wr ((wr.setCell ⟨g, k * 3, none⟩ (.int .i64 K)).setCell ⟨g, k * 3 + 1, none⟩ (.int .i64 (K + 1)))) := Lib.hid (((Fr.refl (fun b => b = g) wr).setCell (p := ⟨g, k * 3, none⟩) (Or.inl rfl) _).setCell (p := ⟨g, k * 3 + 1, none⟩) (Or.inl rfl) _)
   have HXK : ∀ b, atB X b → ¬ atX ss k b := by
    rintro b hb9 ⟨i, x', hi, hx', ho'⟩
    exact H.out.apart i k x' _ hi hx' HX.out b ho' (atB_own' hb9)
   have WX : Hid (Wr ((wr.setCell ⟨g, k * 3, none⟩ (.int .i64 K)).setCell ⟨g, k * 3 + 1, none⟩ (.int .i64 (K + 1))) lo X (p.nd.length * 1) 3) := Lib.hid ((own_wr2 HO.out).fr F2.out (by
    rintro b hb9 (⟨o, ho9⟩ | h9)
    ·cases ho9; exact HXG.out _ hb9 rfl
    ·exact HXK b hb9 h9))
   clear hK h1 h2 h3 hp hx ho hh hXg
   go_wp2_with fail
   refine (markIntG X p.nd.length d lo (K + 1 + 1) _ (by omega) (by omega) (by omega) WX.out).mono ?_
   rintro e w1 ⟨rfl, rd1, fr1⟩
   have hgl : g < wr.heap.size := zAq HH.out
   have HN1 : Hid (∀ i p X d, i < k + 1 → hs[i]? = some p → ss[i]? = some (.slice X p.nd.length d) → Rd w1 X p.nd.length 1 (imarks (k0 + (hcnt (hs.take i) : Int) + 1 + 1) (p.nd.length * 1))) := Lib.hid (fun i p2 X2 d2 hi hp2 hx2 => by
    by_cases hik : i < k
    ·obtain ⟨_, ho2⟩ := H.out.each i _ p2 hx2 hp2
     have hlt2 : ∀ g', X2 = some ⟨g', 0, none⟩ → g' < wr.heap.size := fun g' hg' => Nat.lt_of_lt_of_le (zAx ho2 g' hg') hb.size
     have r1 := (hN.out i p2 X2 d2 hik hp2 hx2).fr hlt2 F3.out (fun b hb9 e => own_ap ho2 H.out.own (by decide) b (atB_own' hb9) (by rw [e]; rfl))
     exact r1.fr (fun g' hg' => Nat.lt_of_lt_of_le (hlt2 g' hg') F3.out.size) fr1 (fun b h1 h2 => H.out.apart i k _ _ hik hx2 HX.out b (atB_own' h1) (atB_own' h2))
    ·obtain rfl : i = k := by omega
     rw [HPP.out] at hp2
     obtain rfl := Option.some.inj hp2
     rw [HX.out] at hx2
     cases hx2
     rw [← HK.out]; exact rd1)
   have HC1 : ∃ cur1, w1.heap[g]? = some (.cells cur1 41 (0, 0)) ∧ n * 3 ≤ cur1.size ∧ Hid ((∀ i x, ss[i]? = some x → cur1[i * 3 + 2]? = some x) ∧ ∀ i, i < k + 1 → cur1[i * 3]? = some (.int .i64 (k0 + (hcnt (hs.take i) : Int))) ∧ cur1[i * 3 + 1]? = some (.int .i64 (k0 + (hcnt (hs.take i) : Int) + 1))) := by
    refine ⟨_, bx_fr (zAr (zAr HH.out)) fr1 (fun hb9 => HXG.out _ hb9 rfl), by simpa using hsz, Lib.hid ⟨fun i x hx9 => ?_, fun i hi => ?_⟩⟩
    ·simp only [Array.getElem?_setIfInBounds, Array.size_setIfInBounds]
     rw [if_neg (by omega), if_neg (by omega)]
     exact hC.out.1 i x hx9
    ·simp only [Array.getElem?_setIfInBounds, Array.size_setIfInBounds]
     by_cases hik : i < k
     ·obtain ⟨a1, a2⟩ := hC.out.2 i hik
      rw [if_neg (by omega), if_neg (by omega), if_neg (by omega), if_neg (by omega)]
      exact ⟨a1, a2⟩
     ·obtain rfl : i = k := by omega
      rw [if_neg (by omega), if_pos rfl, if_pos (by omega), if_pos rfl, if_pos (by omega), ← HK.out]
      exact ⟨rfl, rfl⟩
   have HC2 := Lib.hid HC1
   have FF : Hid (Fr (fun b => atB (some ⟨g, 0, none⟩) b ∨ atX ss (k + 1) b) w w1) := Lib.hid ((F2.out.mono (by
    rintro b (h9 | ⟨i, x', hi, h1, h2⟩)
    ·exact Or.inl h9
    ·exact Or.inr ⟨i, x', by omega, h1, h2⟩)).trans (fr1.mono (fun b hb9 => Or.inr ⟨k, _, by omega, HX.out, atB_own' hb9⟩)))
   clear rd1 fr1 HC1 hb hN hC hcur HXK c2 ho0 ho1 hfz
   go_wp2
   go_roundw
   case rel => exact ⟨k + 1, by omega, by go_num, congrArg (Value.int IntKind.i64) (by have q1 := HK.out; have q2 := H3.out; omega), FF.out, HN1, fun _ => by obtain ⟨cur1, q1, q2, q3⟩ := HC2.out; exact ⟨g, cur1, rfl, q1, q2, q3⟩⟩
   case measure => simp [intOf]; omega
  ·obtain rfl : k = n := by omega
   have HL := H.out.len
   rw [List.take_of_length_le (by omega)]
   go_wp2
   go_ret
   refine ⟨rfl, ⟨HL, fun g hg => Nat.lt_of_lt_of_le (zAx H.out.own g hg) hb.size, fun i p hi hp => ?_⟩, hb⟩
   obtain ⟨g, cur, rfl, hh, hsz, hC⟩ := hcur (by omega)
   obtain ⟨g', p', X, d, hA', hp', hx, hl, ho, hg, _, _, _⟩ := H.out.row hi
   cases hA'
   rw [hp] at hp'
   obtain rfl := Option.some.inj hp'
   obtain ⟨a1, a2⟩ := hC.out.2 i hi
   exact ⟨g, X, d, rfl, hx, hl, zAd hh _ a1, zAd hh _ a2, zAd hh _ (hC.out.1 i _ hx), hN.out i p X d hi hp hx, fun g' hg' => Nat.lt_of_lt_of_le (zAx ho g' hg') hb.size⟩
end Go.Proofs.YtnphjhbfpoekpaaGreat
