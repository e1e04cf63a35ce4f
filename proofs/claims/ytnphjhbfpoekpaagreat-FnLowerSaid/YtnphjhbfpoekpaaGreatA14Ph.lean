import Derived.Test.YtnphjhbfpoekpaaGreatA3Ph
import Derived.Test.YtnphjhbfpoekpaaGreatA1Ph
import Derived.Laws.BitsAllLaws
import Derived.Laws.BitsLemmas
import Derived.Lib.Hide
namespace Go.Proofs.YtnphjhbfpoekpaaGreat
set_option linter.unusedSimpArgs false
set_option linter.unusedVariables false
set_option linter.unnecessarySimpa false
open Go.RowKit
def ByIn (w : World) (A : Option Addr) (n : Nat) : Prop :=
 0 < n → ∃ b off, A = some ⟨b, off, none⟩ ∧ b < w.heap.size ∧ ∀ k, k < n → ∃ z : Int, 0 ≤ z ∧ z ≤ 255 ∧ w.cell? ⟨b, off + k, none⟩ = some (.int .u8 z)
theorem ByIn.below {w w' : World} {A : Option Addr} {n : Nat} (h : ByIn w A n) (hb : Below w.heap.size w w') : ByIn w' A n := fun hn => by
 obtain ⟨b, off, rfl, hl, hc⟩ := h hn
 refine ⟨b, off, rfl, Nat.lt_of_lt_of_le hl hb.size, fun k hk => ?_⟩
 obtain ⟨z, h0, h1, h2⟩ := hc k hk
 exact ⟨z, h0, h1, (hb.cell (p := ⟨b, _, none⟩) hl).trans h2⟩
def in64 (x : Int) : Prop := -9223372036854775808 ≤ x ∧ x ≤ 9223372036854775807
theorem and_le (x m : Int) (h0 : 0 ≤ m) (h1 : m ≤ 1073741823) : 0 ≤ bits .and .i64 x m ∧ bits .and .i64 x m ≤ m := by
 obtain ⟨k, rfl⟩ : ∃ k : Nat, m = k := ⟨m.toNat, by omega⟩
 have hk : (BitVec.ofInt 64 (k : Int)).toNat = k := by
  rw [BitVec.ofInt_natCast, BitVec.toNat_ofNat]; exact Nat.mod_eq_of_lt (by omega)
 have e : bits .and .i64 x (k : Int) = IntKind.i64.wrap ((BitVec.ofInt 64 x &&& BitVec.ofInt 64 (k : Int)).toNat : Int) := rfl
 have hle : (BitVec.ofInt 64 x &&& BitVec.ofInt 64 (k : Int)).toNat ≤ k := by
  rw [BitVec.toNat_and, hk]; exact Nat.and_le_right
 rw [e]
 generalize (BitVec.ofInt 64 x &&& BitVec.ofInt 64 (k : Int)).toNat = z at *
 rw [IntKind.wrap_i64]; omega
structure Cur (w : World) (g : Nat) : Prop where
 ex : ∃ (A : Option Addr) (n c : Nat) (pos st : Int), w.heap[g]? = some (.cells #[.slice A n c, .int .i64 pos, .int .i64 st] 168 (0, 0)) ∧ 0 ≤ pos ∧ pos ≤ n ∧ n ≤ 1048576 ∧ ByIn w A n ∧ (0 < n → ∀ k, atB A k → k < g)
theorem Cur.lt {w : World} {g : Nat} (h : Cur w g) : g < w.heap.size := by obtain ⟨A, n, c, pos, st, h, _⟩ := h.ex; exact zAg h
theorem Cur.below {w w' : World} {g : Nat} (h : Cur w g) (hb : Below w.heap.size w w') : Cur w' g := by
 obtain ⟨A, n, c, pos, st, h1, h2, h3, h4, h5, h6⟩ := h.ex
 exact ⟨A, n, c, pos, st, zAf h1 hb, h2, h3, h4, h5.below hb, h6⟩
theorem ByIn.set {w : World} {A : Option Addr} {n : Nat} (h : ByIn w A n) {p : Addr} (hp : 0 < n → ∀ k, atB A k → k ≠ p.block) (v : Value) : ByIn (w.setCell p v) A n := fun hn => by
 obtain ⟨b, off, rfl, hl, hc⟩ := h hn
 refine ⟨b, off, rfl, by simpa using hl, fun k hk => ?_⟩
 obtain ⟨z, h0, h1, h2⟩ := hc k hk
 refine ⟨z, h0, h1, ?_⟩
 rw [World.cell?_of_block (Below.heap_setCell w p v b (hp hn b ⟨off, rfl⟩))]
 exact h2
theorem ByIn.drewN {w : World} {A : Option Addr} {n : Nat} (h : ByIn w A n) (k : Nat) : ByIn (w.drewN k) A n := h
theorem ByIn.drew {w : World} {A : Option Addr} {n : Nat} (h : ByIn w A n) : ByIn w.drew A n := h
theorem Fr.drewN {S : Nat → Prop} {a w : World} (h : Fr S a w) (k : Nat) : Fr S a (w.drewN k) := ⟨h.os, h.tape, h.output, h.size, h.block⟩
theorem Cur.set {w : World} {g : Nat} (h : Cur w g) {p : Addr} (hp : g < p.block) (v : Value) : Cur (w.setCell p v) g := by
 obtain ⟨A, n, c, pos, st, h1, h2, h3, h4, h5, h6⟩ := h.ex
 exact ⟨A, n, c, pos, st, bx_set h1 (by omega) v, h2, h3, h4, h5.set (fun hn k hk => by have := h6 hn k hk; omega) v, h6⟩
theorem Cur.alloc {w : World} {g : Nat} (h : Cur w g) (o : Obj) : Cur (w.alloc o) g := h.below (zAa w o)
theorem Cur.drewN {w : World} {g : Nat} (h : Cur w g) (k : Nat) : Cur (w.drewN k) g := ⟨h.ex⟩
theorem Cur.drew {w : World} {g : Nat} (h : Cur w g) : Cur w.drew g := ⟨h.ex⟩
theorem cur_set1 {w : World} {g : Nat} {a b s : Value} {t : TypeId} (h : w.heap[g]? = some (.cells #[a, b, s] t (0, 0))) (v : Value) : (w.setCell ⟨g, 1, none⟩ v).heap[g]? = some (.cells #[a, v, s] t (0, 0)) := by
 simpa using heap_set (i := 1) (v := v) h
theorem cur_set2 {w : World} {g : Nat} {a b s : Value} {t : TypeId} (h : w.heap[g]? = some (.cells #[a, b, s] t (0, 0))) (v : Value) : (w.setCell ⟨g, 2, none⟩ v).heap[g]? = some (.cells #[a, b, v] t (0, 0)) := by
 simpa using heap_set (i := 2) (v := v) h
theorem cur_drewN {w : World} {g : Nat} {o : Obj} (h : w.heap[g]? = some o) (k : Nat) : (w.drewN k).heap[g]? = some o := h
set_option maxHeartbeats 1000000 in
theorem cur_byte (g : Nat) (w : World) (h : Cur w g) :
  Calls Tryz.prog 191 #[.pointer (some ⟨g, 0, none⟩)] w fun e w' => ∃ x : Int, e = .returned (.int .i64 x) ∧ 0 ≤ x ∧ x ≤ 255 ∧ Cur w' g ∧ Fr (· = g) w w' := by
 obtain ⟨A, n, c, pos, st, hh, hp0, hp1, hn, hby, hap⟩ := h.ex
 obtain ⟨k, rfl⟩ : ∃ k : Nat, pos = k := ⟨pos.toNat, by omega⟩
 have c0 := zAb hh 0 rfl
 have c1 := zAb hh 1 rfl
 have c2 := zAb hh 2 rfl
 have f0 := zAh hh
 have hgl := zAg hh
 have HH := Lib.hid hh
 have HBY := Lib.hid hby
 have HAP := Lib.hid hap
 have HAN : 0 < n → ∀ k, atB A k → k ≠ g := fun hn k hk => by have := HAP.out hn k hk; omega
 clear h hh hby hap
 by_cases hlt : k < n
 ·obtain ⟨b, off, rfl, hbl, hcb⟩ := HBY.out (by omega)
  obtain ⟨z, z0, z1, cz⟩ := hcb k hlt
  have hne : g ≠ b := fun e => absurd (HAP.out (by omega) b ⟨off, rfl⟩) (by omega)
  have hne2 : b ≠ g := fun e => hne e.symm
  have hlt' : (k : Int) < n := by omega
  clear hcb
  go_enter Tryz.func191, Tryz.ntmps191
  go_wp2
  go_quiet (fail)
  go_wp2
  go_quiet (fail)
  go_wp2
  go_quiet (fail)
  go_wp2
  go_ret
  exact ⟨_, rfl, (and_le _ _ (by omega) (by omega)).1, (and_le _ _ (by omega) (by omega)).2, ⟨_, n, c, (k : Int) + 1, _, cur_set1 (cur_drewN (cur_set2 HH.out _) _) _, by omega, by omega, hn, ((HBY.out.set HAN _).drewN _).set HAN _, HAP.out⟩, (((Fr.refl (· = g) w).setCell (p := ⟨g, 2, none⟩) (Or.inl rfl) _).drewN _).setCell (p := ⟨g, 1, none⟩) (Or.inl rfl) _⟩
 ·have hlt' : ¬ (k : Int) < n := by omega
  go_enter Tryz.func191, Tryz.ntmps191
  go_wp2
  go_quiet (fail)
  go_wp2
  go_quiet (fail)
  go_wp2
  go_ret
  exact ⟨_, rfl, (and_le _ _ (by omega) (by omega)).1, (and_le _ _ (by omega) (by omega)).2, ⟨_, n, c, (k : Int), _, cur_drewN (cur_drewN (cur_set2 HH.out _) _) _, by omega, by omega, hn, ((HBY.out.set HAN _).drewN _).drewN _, HAP.out⟩, (((Fr.refl (· = g) w).setCell (p := ⟨g, 2, none⟩) (Or.inl rfl) _).drewN _).drewN _⟩
theorem tmod_in {x m : Int} (h : 0 ≤ x) (hm : 0 < m) : 0 ≤ x % m ∧ x % m < m := ⟨Int.emod_nonneg _ (by omega), Int.emod_lt_of_pos _ hm⟩
theorem Fr.bel {S : Nat → Prop} {w w' : World} (h : Fr S w w') {B : Nat} (hS : ∀ k, S k → B ≤ k) (hB : B ≤ w.heap.size) : Below B w w' := h.below hS hB
set_option maxHeartbeats 1000000 in
theorem zAt (g : Nat) (m : Int) (w : World) (h : Cur w g) (h0 : 1 ≤ m) (h1 : m ≤ 1000000000) :
  Calls Tryz.prog 132 #[.pointer (some ⟨g, 0, none⟩), .int .i64 m] w fun e w' => ∃ x : Int, e = .returned (.int .i64 x) ∧ 0 ≤ x ∧ x < m ∧ Cur w' g ∧ Fr (· = g) w w' := by
 have hm : ¬ m ≤ 0 := by omega
 have hm0 : (0 : Int) < m := by omega
 have hmz : ¬ m = 0 := by omega
 by_cases hs : m ≤ 256
 ·go_enter Tryz.func132, Tryz.ntmps132
  go_wp2_with fail
  refine (cur_byte g _ h).mono ?_
  rintro e w1 ⟨x1, rfl, a1, b1, cu1, fr1⟩
  have ht := tmod_in a1 hm0
  go_wp2
  go_ret
  exact ⟨_, rfl, ht.1, ht.2, cu1, fr1⟩
 ·go_enter Tryz.func132, Tryz.ntmps132
  go_wp2_with fail
  refine (cur_byte g _ h).mono ?_
  rintro e w1 ⟨x1, rfl, a1, b1, cu1, fr1⟩
  go_wp2_with fail
  refine (cur_byte g _ cu1).mono ?_
  rintro e w2 ⟨x2, rfl, a2, b2, cu2, fr2⟩
  go_wp2_with fail
  refine (cur_byte g _ cu2).mono ?_
  rintro e w3 ⟨x3, rfl, a3, b3, cu3, fr3⟩
  go_wp2_with fail
  refine (cur_byte g _ cu3).mono ?_
  rintro e w4 ⟨x4, rfl, a4, b4, cu4, fr4⟩
  have ht := tmod_in (x := x1 * 16777216 + x2 * 65536 + x3 * 256 + x4) (by omega) hm0
  go_wp2
  go_ret
  exact ⟨_, rfl, ht.1, ht.2, cu4, ((fr1.trans fr2).trans fr3).trans fr4⟩
theorem ByIn.lt {w : World} {A : Option Addr} {n : Nat} (h : ByIn w A n) (hn : 0 < n) : ∀ k, atB A k → k < w.heap.size := by
 obtain ⟨b, off, rfl, hl, _⟩ := h hn
 rintro k ⟨o, e⟩
 injection e with e
 injection e with e
 omega
set_option maxHeartbeats 1000000 in
theorem cur_new (A : Option Addr) (n c : Nat) (w : World) (hn : n ≤ 1048576) (h : ByIn w A n) :
  Calls Tryz.prog 50 #[.slice A n c] w fun e w' => ∃ g, e = .returned (.pointer (some ⟨g, 0, none⟩)) ∧ w.heap.size ≤ g ∧ Cur w' g ∧ Below w.heap.size w w' := by
 have HB := Lib.hid h
 clear h
 go_enter Tryz.func50, Tryz.ntmps50
 go_wp2
 go_loopw [3, 4] (fun s i wr => ∃ (k : Nat) (st : Int), k ≤ n ∧ i = .int .i64 k ∧ s = .int .i64 st ∧ 0 ≤ st ∧ st ≤ 1073741823 ∧ wr = w) (fun _ i _ => n - (intOf i).toNat)
 case atStart => exact ⟨0, _, Nat.zero_le _, rfl, rfl, by omega, by omega, rfl⟩
 case round =>
  obtain ⟨k, st, hk, rfl, rfl, hs0, hs1, rfl⟩ := hrel
  by_cases hlt : k < n
  ·have hlt' : (k : Int) < n := by omega
   by_cases h4 : (k : Int) < 4000
   ·obtain ⟨b, off, rfl, hbl, hcb⟩ := HB.out (by omega)
    obtain ⟨z, z0, z1, cz⟩ := hcb k hlt
    clear hcb
    have ha := and_le (st * 151 + z + 7) 1073741823 (by omega) (by omega)
    go_wp2
    go_roundw
    case rel => exact ⟨k + 1, _, by omega, by go_num, rfl, ha.1, ha.2, by trivial⟩
    case measure => simp [intOf]; omega
   ·go_wp2
    go_ret
    refine ⟨wr.heap.size, rfl, Nat.le_refl _, ⟨A, n, c, 0, st, zAj _ rfl, by omega, by omega, hn, HB.out.below (zAa _ _), fun hn' k' hk' => ?_⟩, zAa _ _⟩
    have := HB.out.lt hn' k' hk'; omega
  ·have hlt' : ¬ (k : Int) < n := by omega
   go_wp2
   go_ret
   refine ⟨wr.heap.size, rfl, Nat.le_refl _, ⟨A, n, c, 0, st, zAj _ rfl, by omega, by omega, hn, HB.out.below (zAa _ _), fun hn' k' hk' => ?_⟩, zAa _ _⟩
   have := HB.out.lt hn' k' hk'; omega
set_option maxHeartbeats 1000000 in
theorem cur_raw (g : Nat) (w : World) (h : Cur w g) :
  Calls Tryz.prog 134 #[.pointer (some ⟨g, 0, none⟩)] w fun e w' => ∃ x : Int, e = .returned (.int .i64 x) ∧ in64 x ∧ Cur w' g ∧ Fr (· = g) w w' := by
 have C := Lib.hid h
 clear h
 go_enter Tryz.func134, Tryz.ntmps134
 go_wp2_with fail
 refine (zAt g 9 _ C.out (by omega) (by omega)).mono ?_
 rintro e w1 ⟨x1, rfl, a1, q1, cu1, fr1⟩
 have hs1 := fr1.size
 (try simp at hs1)
 have C1 := Lib.hid cu1
 have hgl1 := cu1.lt
 clear cu1
 by_cases h4 : x1 < 4
 ·skip
  go_wp2_with fail
  refine (zAt g 24 _ C1.out (by omega) (by omega)).mono ?_
  rintro e w2 ⟨x2, rfl, a2, q2, cu2, fr2⟩
  have hs2 := fr2.size
  (try simp at hs2)
  have C2 := Lib.hid cu2
  have hgl2 := cu2.lt
  clear cu2
  go_wp2
  go_ret
  exact ⟨_, rfl, ⟨by omega, by omega⟩, C2.out, fr1.trans fr2⟩
 ·by_cases e4 : x1 = 4
  ·subst e4
   go_wp2_with fail
   refine (zAt g 3 _ C1.out (by omega) (by omega)).mono ?_
   rintro e w2 ⟨x2, rfl, a2, q2, cu2, fr2⟩
   have hs2 := fr2.size
   (try simp at hs2)
   have C2 := Lib.hid cu2
   have hgl2 := cu2.lt
   clear cu2
   go_wp2
   go_ret
   exact ⟨_, rfl, ⟨by omega, by omega⟩, C2.out, fr1.trans fr2⟩
  ·by_cases e5 : x1 = 5
   ·subst e5
    go_wp2_with fail
    refine (zAt g 3 _ C1.out (by omega) (by omega)).mono ?_
    rintro e w2 ⟨x2, rfl, a2, q2, cu2, fr2⟩
    have hs2 := fr2.size
    (try simp at hs2)
    have C2 := Lib.hid cu2
    have hgl2 := cu2.lt
    clear cu2
    go_wp2
    go_ret
    exact ⟨_, rfl, ⟨by omega, by omega⟩, C2.out, fr1.trans fr2⟩
   ·by_cases e6 : x1 = 6
    ·subst e6
     go_wp2_with fail
     refine (zAt g 2 _ C1.out (by omega) (by omega)).mono ?_
     rintro e w2 ⟨x2, rfl, a2, q2, cu2, fr2⟩
     have hs2 := fr2.size
     (try simp at hs2)
     have C2 := Lib.hid cu2
     have hgl2 := cu2.lt
     clear cu2
     go_wp2
     go_ret
     exact ⟨_, rfl, ⟨by omega, by omega⟩, C2.out, fr1.trans fr2⟩
    ·by_cases e7 : x1 = 7
     ·subst e7
      go_wp2_with fail
      refine (zAt g 2 _ C1.out (by omega) (by omega)).mono ?_
      rintro e w2 ⟨x2, rfl, a2, q2, cu2, fr2⟩
      have hs2 := fr2.size
      (try simp at hs2)
      have C2 := Lib.hid cu2
      have hgl2 := cu2.lt
      clear cu2
      go_wp2
      go_ret
      exact ⟨_, rfl, ⟨by omega, by omega⟩, C2.out, fr1.trans fr2⟩
     ·skip
      go_wp2_with fail
      refine (zAt g 2000000 _ C1.out (by omega) (by omega)).mono ?_
      rintro e w2 ⟨x2, rfl, a2, q2, cu2, fr2⟩
      have hs2 := fr2.size
      (try simp at hs2)
      have C2 := Lib.hid cu2
      have hgl2 := cu2.lt
      clear cu2
      go_wp2
      go_ret
      exact ⟨_, rfl, ⟨by omega, by omega⟩, C2.out, fr1.trans fr2⟩
theorem vok_mk {a b c : Int} (a0 : 0 ≤ a) (a1 : a ≤ 1000000) (b0 : 0 ≤ b) (b1 : b ≤ 1000000) (c0 : 0 ≤ c) (c1 : c ≤ 1000000) : vecOkB a b c = true := by
 simp [vecOkB, resB, inB, *]
set_option maxHeartbeats 2000000 in
theorem cur_vec (g : Nat) (w : World) (h : Cur w g) :
  Calls Tryz.prog 247 #[.pointer (some ⟨g, 0, none⟩)] w fun e w' => ∃ x y z : Int, e = .returned (.agg #[.int .i64 x, .int .i64 y, .int .i64 z]) ∧ vecOkB x y z = true ∧ Cur w' g ∧ Fr (· = g) w w' := by
 have C := Lib.hid h
 have hgw := h.lt
 clear h
 go_enter Tryz.func247, Tryz.ntmps247
 go_wp2_with fail
 refine (zAt g 9 _ (by repeat (first | exact C.out | refine Cur.alloc ?_ _ | refine Cur.drewN ?_ _ | refine Cur.drew ?_ | refine Cur.set ?_ (by simp <;> omega) _)) (by omega) (by omega)).mono ?_
 rintro e w1 ⟨x1, rfl, a1, q1, cu1, fr1⟩
 have hs1 := fr1.size
 (try simp at hs1)
 have hy10 : w.heap.size < w1.heap.size := by omega
 have hk10 := fun o => fr1.cell (b := w.heap.size) zOm (by omega) o
 have hg10 := fun o => fr1.frozen (b := w.heap.size) zOm (by omega) o
 have C1 := Lib.hid cu1
 have hgl1 := cu1.lt
 clear cu1
 go_wp2_with fail
 refine (zAt g 17 _ (by repeat (first | exact C1.out | refine Cur.alloc ?_ _ | refine Cur.drewN ?_ _ | refine Cur.drew ?_ | refine Cur.set ?_ (by simp <;> omega) _)) (by omega) (by omega)).mono ?_
 rintro e w2 ⟨x2, rfl, a2, q2, cu2, fr2⟩
 have hs2 := fr2.size
 (try simp at hs2)
 have hy20 : w.heap.size < w2.heap.size := by omega
 have hk20 := fun o => fr2.cell (b := w.heap.size) zOm (by omega) o
 have hg20 := fun o => fr2.frozen (b := w.heap.size) zOm (by omega) o
 have C2 := Lib.hid cu2
 have hgl2 := cu2.lt
 clear cu2
 go_wp2_with fail
 refine (zAt g 3 _ (by repeat (first | exact C2.out | refine Cur.alloc ?_ _ | refine Cur.drewN ?_ _ | refine Cur.drew ?_ | refine Cur.set ?_ (by simp <;> omega) _)) (by omega) (by omega)).mono ?_
 rintro e w3 ⟨x3, rfl, a3, q3, cu3, fr3⟩
 have hs3 := fr3.size
 (try simp at hs3)
 have hy30 : w.heap.size < w3.heap.size := by omega
 have hk30 := fun o => fr3.cell (b := w.heap.size) zOm (by omega) o
 have hg30 := fun o => fr3.frozen (b := w.heap.size) zOm (by omega) o
 have C3 := Lib.hid cu3
 have hgl3 := cu3.lt
 clear cu3
 go_wp2_with fail
 refine (zAt g 14 _ (by repeat (first | exact C3.out | refine Cur.alloc ?_ _ | refine Cur.drewN ?_ _ | refine Cur.drew ?_ | refine Cur.set ?_ (by simp <;> omega) _)) (by omega) (by omega)).mono ?_
 rintro e w4 ⟨x4, rfl, a4, q4, cu4, fr4⟩
 have hs4 := fr4.size
 (try simp at hs4)
 have hy40 : w.heap.size < w4.heap.size := by omega
 have hk40 := fun o => fr4.cell (b := w.heap.size) zOm (by omega) o
 have hg40 := fun o => fr4.frozen (b := w.heap.size) zOm (by omega) o
 have hy41 : w3.heap.size < w4.heap.size := by omega
 have hk41 := fun o => fr4.cell (b := w3.heap.size) zOm (by omega) o
 have hg41 := fun o => fr4.frozen (b := w3.heap.size) zOm (by omega) o
 have C4 := Lib.hid cu4
 have hgl4 := cu4.lt
 clear cu4
 by_cases h0 : x4 = 0
 ·subst h0
  go_wp2_with fail
  refine (zAt g 2 _ (by repeat (first | exact C4.out | refine Cur.alloc ?_ _ | refine Cur.drewN ?_ _ | refine Cur.drew ?_ | refine Cur.set ?_ (by simp <;> omega) _)) (by omega) (by omega)).mono ?_
  rintro e w5 ⟨x5, rfl, a5, q5, cu5, fr5⟩
  have hs5 := fr5.size
  (try simp at hs5)
  have hy50 : w.heap.size < w5.heap.size := by omega
  have hk50 := fun o => fr5.cell (b := w.heap.size) zOm (by omega) o
  have hg50 := fun o => fr5.frozen (b := w.heap.size) zOm (by omega) o
  have hy51 : w3.heap.size < w5.heap.size := by omega
  have hk51 := fun o => fr5.cell (b := w3.heap.size) zOm (by omega) o
  have hg51 := fun o => fr5.frozen (b := w3.heap.size) zOm (by omega) o
  have C5 := Lib.hid cu5
  have hgl5 := cu5.lt
  clear cu5
  go_wp2
  (try go_light)
  refine bodyPost_ret (v := .agg #[.int .i64 (x1), .int .i64 (1000000 - x5), .int .i64 (x3)]) (by simp [results, Tryz.results247, go_sem, *]) rfl ⟨_, _, _, rfl, vok_mk (by omega) (by omega) (by omega) (by omega) (by omega) (by omega), (by repeat (first | exact C5.out | refine Cur.alloc ?_ _ | refine Cur.drewN ?_ _ | refine Cur.drew ?_ | refine Cur.set ?_ (by simp <;> omega) _)), (by repeat (first | exact Fr.refl _ _ | assumption | refine Fr.trans ?_ (by assumption) | refine Fr.alloc ?_ _ | refine Fr.setCell ?_ (Or.inr (by simp <;> omega)) _ | refine Fr.drewN ?_ _ | refine Fr.drew ?_))⟩
 ·skip
  go_wp2
  (try go_light)
  refine bodyPost_ret (v := .agg #[.int .i64 (x1), .int .i64 (x2), .int .i64 (x3)]) (by simp [results, Tryz.results247, go_sem, *]) rfl ⟨_, _, _, rfl, vok_mk (by omega) (by omega) (by omega) (by omega) (by omega) (by omega), (by repeat (first | exact C4.out | refine Cur.alloc ?_ _ | refine Cur.drewN ?_ _ | refine Cur.drew ?_ | refine Cur.set ?_ (by simp <;> omega) _)), (by repeat (first | exact Fr.refl _ _ | assumption | refine Fr.trans ?_ (by assumption) | refine Fr.alloc ?_ _ | refine Fr.setCell ?_ (Or.inr (by simp <;> omega)) _ | refine Fr.drewN ?_ _ | refine Fr.drew ?_))⟩
theorem vecOk_le9 {a b c : Int} (h : vecOkB a b c = true) : (0 ≤ a ∧ a ≤ 1000000) ∧ (0 ≤ b ∧ b ≤ 1000000) ∧ (0 ≤ c ∧ c ≤ 1000000) := by
 simp [vecOkB, resB, inB] at h; omega
set_option maxHeartbeats 2000000 in
theorem cur_any (g : Nat) (w : World) (h : Cur w g) :
  Calls Tryz.prog 217 #[.pointer (some ⟨g, 0, none⟩)] w fun e w' => ∃ x y z : Int, e = .returned (.agg #[.int .i64 x, .int .i64 y, .int .i64 z]) ∧ in64 x ∧ in64 y ∧ in64 z ∧ Cur w' g ∧ Fr (· = g) w w' := by
 have C := Lib.hid h
 have hgw := h.lt
 clear h
 go_enter Tryz.func217, Tryz.ntmps217
 go_wp2_with fail
 refine (cur_vec g _ (by repeat (first | exact C.out | refine Cur.alloc ?_ _ | refine Cur.drewN ?_ _ | refine Cur.drew ?_ | refine Cur.set ?_ (by simp <;> omega) _))).mono ?_
 rintro e w1 ⟨x, y, z, rfl, hv, cu1, fr1⟩
 have hs1 := fr1.size
 (try simp at hs1)
 have hy10 : w.heap.size < w1.heap.size := by omega
 have hk10 := fun o => fr1.cell (b := w.heap.size) zOm (by omega) o
 have hg10 := fun o => fr1.frozen (b := w.heap.size) zOm (by omega) o
 have C1 := Lib.hid cu1
 have hgl1 := cu1.lt
 clear cu1
 obtain ⟨⟨x0, x1⟩, ⟨y0, y1⟩, ⟨z0, z1⟩⟩ := vecOk_le9 hv
 have I1 : in64 x := ⟨by omega, by omega⟩
 have I2 : in64 y := ⟨by omega, by omega⟩
 have I3 : in64 z := ⟨by omega, by omega⟩
 clear hv x0 x1 y0 y1 z0 z1
 go_wp2_with fail
 refine (zAt g 12 _ (by repeat (first | exact C1.out | refine Cur.alloc ?_ _ | refine Cur.drewN ?_ _ | refine Cur.drew ?_ | refine Cur.set ?_ (by simp <;> omega) _)) (by omega) (by omega)).mono ?_
 rintro e w2 ⟨k, rfl, ka, kb, cu2, fr2⟩
 have hs2 := fr2.size
 (try simp at hs2)
 have hy20 : w.heap.size < w2.heap.size := by omega
 have hk20 := fun o => fr2.cell (b := w.heap.size) zOm (by omega) o
 have hg20 := fun o => fr2.frozen (b := w.heap.size) zOm (by omega) o
 have hy21 : w1.heap.size < w2.heap.size := by omega
 have hk21 := fun o => fr2.cell (b := w1.heap.size) zOm (by omega) o
 have hg21 := fun o => fr2.frozen (b := w1.heap.size) zOm (by omega) o
 have C2 := Lib.hid cu2
 have hgl2 := cu2.lt
 clear cu2
 by_cases e0 : k = 0
 ·subst e0
  go_wp2_with fail
  refine (cur_raw g _ (by repeat (first | exact C2.out | refine Cur.alloc ?_ _ | refine Cur.drewN ?_ _ | refine Cur.drew ?_ | refine Cur.set ?_ (by simp <;> omega) _))).mono ?_
  rintro e w3 ⟨r, rfl, hr, cu3, fr3⟩
  have hs3 := fr3.size
  (try simp at hs3)
  have hy30 : w.heap.size < w3.heap.size := by omega
  have hk30 := fun o => fr3.cell (b := w.heap.size) zOm (by omega) o
  have hg30 := fun o => fr3.frozen (b := w.heap.size) zOm (by omega) o
  have hy31 : w1.heap.size < w3.heap.size := by omega
  have hk31 := fun o => fr3.cell (b := w1.heap.size) zOm (by omega) o
  have hg31 := fun o => fr3.frozen (b := w1.heap.size) zOm (by omega) o
  have C3 := Lib.hid cu3
  have hgl3 := cu3.lt
  clear cu3
  go_wp2
  (try go_light)
  exact bodyPost_ret (v := .agg #[.int .i64 r, .int .i64 y, .int .i64 z]) (by simp [results, Tryz.results217, go_sem, *]) rfl ⟨_, _, _, rfl, hr, I2, I3, (by repeat (first | exact C3.out | refine Cur.alloc ?_ _ | refine Cur.drewN ?_ _ | refine Cur.drew ?_ | refine Cur.set ?_ (by simp <;> omega) _)), (by repeat (first | exact Fr.refl _ _ | assumption | refine Fr.trans ?_ (by assumption) | refine Fr.alloc ?_ _ | refine Fr.setCell ?_ (Or.inr (by simp <;> omega)) _ | refine Fr.drewN ?_ _ | refine Fr.drew ?_))⟩
 by_cases e1 : k = 1
 ·subst e1
  go_wp2_with fail
  refine (cur_raw g _ (by repeat (first | exact C2.out | refine Cur.alloc ?_ _ | refine Cur.drewN ?_ _ | refine Cur.drew ?_ | refine Cur.set ?_ (by simp <;> omega) _))).mono ?_
  rintro e w3 ⟨r, rfl, hr, cu3, fr3⟩
  have hs3 := fr3.size
  (try simp at hs3)
  have hy30 : w.heap.size < w3.heap.size := by omega
  have hk30 := fun o => fr3.cell (b := w.heap.size) zOm (by omega) o
  have hg30 := fun o => fr3.frozen (b := w.heap.size) zOm (by omega) o
  have hy31 : w1.heap.size < w3.heap.size := by omega
  have hk31 := fun o => fr3.cell (b := w1.heap.size) zOm (by omega) o
  have hg31 := fun o => fr3.frozen (b := w1.heap.size) zOm (by omega) o
  have C3 := Lib.hid cu3
  have hgl3 := cu3.lt
  clear cu3
  go_wp2
  (try go_light)
  exact bodyPost_ret (v := .agg #[.int .i64 x, .int .i64 r, .int .i64 z]) (by simp [results, Tryz.results217, go_sem, *]) rfl ⟨_, _, _, rfl, I1, hr, I3, (by repeat (first | exact C3.out | refine Cur.alloc ?_ _ | refine Cur.drewN ?_ _ | refine Cur.drew ?_ | refine Cur.set ?_ (by simp <;> omega) _)), (by repeat (first | exact Fr.refl _ _ | assumption | refine Fr.trans ?_ (by assumption) | refine Fr.alloc ?_ _ | refine Fr.setCell ?_ (Or.inr (by simp <;> omega)) _ | refine Fr.drewN ?_ _ | refine Fr.drew ?_))⟩
 by_cases e2 : k = 2
 ·subst e2
  go_wp2_with fail
  refine (cur_raw g _ (by repeat (first | exact C2.out | refine Cur.alloc ?_ _ | refine Cur.drewN ?_ _ | refine Cur.drew ?_ | refine Cur.set ?_ (by simp <;> omega) _))).mono ?_
  rintro e w3 ⟨r, rfl, hr, cu3, fr3⟩
  have hs3 := fr3.size
  (try simp at hs3)
  have hy30 : w.heap.size < w3.heap.size := by omega
  have hk30 := fun o => fr3.cell (b := w.heap.size) zOm (by omega) o
  have hg30 := fun o => fr3.frozen (b := w.heap.size) zOm (by omega) o
  have hy31 : w1.heap.size < w3.heap.size := by omega
  have hk31 := fun o => fr3.cell (b := w1.heap.size) zOm (by omega) o
  have hg31 := fun o => fr3.frozen (b := w1.heap.size) zOm (by omega) o
  have C3 := Lib.hid cu3
  have hgl3 := cu3.lt
  clear cu3
  go_wp2
  (try go_light)
  exact bodyPost_ret (v := .agg #[.int .i64 x, .int .i64 y, .int .i64 r]) (by simp [results, Tryz.results217, go_sem, *]) rfl ⟨_, _, _, rfl, I1, I2, hr, (by repeat (first | exact C3.out | refine Cur.alloc ?_ _ | refine Cur.drewN ?_ _ | refine Cur.drew ?_ | refine Cur.set ?_ (by simp <;> omega) _)), (by repeat (first | exact Fr.refl _ _ | assumption | refine Fr.trans ?_ (by assumption) | refine Fr.alloc ?_ _ | refine Fr.setCell ?_ (Or.inr (by simp <;> omega)) _ | refine Fr.drewN ?_ _ | refine Fr.drew ?_))⟩
 go_wp2
 (try go_light)
 exact bodyPost_ret (v := .agg #[.int .i64 x, .int .i64 y, .int .i64 z]) (by simp [results, Tryz.results217, go_sem, *]) rfl ⟨_, _, _, rfl, I1, I2, I3, (by repeat (first | exact C2.out | refine Cur.alloc ?_ _ | refine Cur.drewN ?_ _ | refine Cur.drew ?_ | refine Cur.set ?_ (by simp <;> omega) _)), (by repeat (first | exact Fr.refl _ _ | assumption | refine Fr.trans ?_ (by assumption) | refine Fr.alloc ?_ _ | refine Fr.setCell ?_ (Or.inr (by simp <;> omega)) _ | refine Fr.drewN ?_ _ | refine Fr.drew ?_))⟩
end Go.Proofs.YtnphjhbfpoekpaaGreat
