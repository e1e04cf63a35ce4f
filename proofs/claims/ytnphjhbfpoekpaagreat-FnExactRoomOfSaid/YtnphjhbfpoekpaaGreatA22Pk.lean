import Derived.Test.YtnphjhbfpoekpaaGreatA8Pk
import Derived.Test.YtnphjhbfpoekpaaGreatA12Pk
import Derived.Test.YtnphjhbfpoekpaaGreatA7Pk
import Derived.Deep.RegionHeld3
import Derived.Deep.QuietTactic
import Derived.BigQuiet
import Derived.Deep.AppendLies
import Derived.Test.YtnphjhbfpoekpaaGreatA6Pk
import Derived.Test.YtnphjhbfpoekpaaGreatA3Pk
namespace Go.Proofs.YtnphjhbfpoekpaaGreat
set_option linter.unusedSimpArgs false
set_option linter.unusedVariables false
set_option linter.unnecessarySimpa false
open Go.RowKit
set_option maxHeartbeats 1000000 in
theorem markPtG (A : Option Addr) (n c lo : Nat) (k0 : Int) (w : World) (hn : n ≤ 1048577) (hk0 : 0 ≤ k0) (hk1 : k0 ≤ 2305843009213693952) (hw : Wr w lo A (n * 4) 177) :
  Calls Tryz.prog 182 #[.slice A n c, .int .i64 k0] w fun e w' => e = .returned (.int .i64 (k0 + 4 * (n : Int))) ∧ Rd w' A n 4 (imarks k0 (n * 4)) ∧ Fr (atB A) w w' := by
 have hm : n ≤ 9223372036854775807 := by omega
 have hkm : k0 + 4 * (n : Int) ≤ 9223372036854775800 := by omega
 have HW := Lib.hid hw
 clear hn hk1 hw
 go_enter Tryz.func182, Tryz.ntmps182
 go_wp2
 go_loopw [1, 5] (fun q i wr => ∃ k : Nat, k ≤ n ∧ i = .int .i64 k ∧ q = .int .i64 (k0 + 4 * (k : Int)) ∧ Fr (atB A) w wr ∧ (0 < n * 4 → ∃ g cur, A = some ⟨g, 0, none⟩ ∧ wr.heap[g]? = some (.cells cur 177 (0, 0)) ∧ n * 4 ≤ cur.size ∧ ∀ j, j < k * 4 → cur[j]? = some (.int .i64 (k0 + j)))) (fun _ i _ => n - (intOf i).toNat)
 case atStart =>
  refine ⟨0, Nat.zero_le _, rfl, by simp, Fr.refl _ _, fun h => ?_⟩
  obtain ⟨g, cur, hA, hg, hh, hs⟩ := HW.out h
  exact ⟨g, cur, hA, hh, hs, fun j hj => absurd hj (by omega)⟩
 case round =>
  obtain ⟨k, hk, rfl, rfl, hb, hcur⟩ := hrel
  by_cases hlt : k < n
  ·obtain ⟨g, cur, rfl, hh, hs, hm2⟩ := hcur (by omega)
   obtain ⟨o0, ho0⟩ := zAj (i := k * 4) hh (by omega)
   have hf0 := zAi (i := k * 4) hh
   obtain ⟨o1, ho1⟩ := zAj (i := k * 4 + 1) hh (by omega)
   have hf1 := zAi (i := k * 4 + 1) hh
   obtain ⟨o2, ho2⟩ := zAj (i := k * 4 + 2) hh (by omega)
   have hf2 := zAi (i := k * 4 + 2) hh
   obtain ⟨o3, ho3⟩ := zAj (i := k * 4 + 3) hh (by omega)
   have hf3 := zAi (i := k * 4 + 3) hh
   have HM := Lib.hid hm2
   have HH := Lib.hid hh
   clear hm2 hh hcur
   have hlt' : (k : Int) < n := by omega
   have hlt2 : k0 + 4 * (k : Int) + 4 ≤ 9223372036854775807 := by omega
   have hlt3 : 0 ≤ k0 + 4 * (k : Int) := by omega
   go_wp2
   refine ⟨⟨k + 1, by omega, by go_num, congrArg (Value.int IntKind.i64) (by omega), ((((hb.setCell (Or.inl ⟨0, rfl⟩) _).setCell (Or.inl ⟨0, rfl⟩) _).setCell (Or.inl ⟨0, rfl⟩) _).setCell (Or.inl ⟨0, rfl⟩) _), fun _ => ⟨g, _, rfl, (zAk (zAk (zAk (zAk HH.out)))), ?_, ?_⟩⟩, by simp [intOf]; omega⟩
   ·simpa using hs
   ·intro j hj
    simp only [Array.getElem?_setIfInBounds, Array.size_setIfInBounds]
    have HM' := HM.out j
    repeat' split
    all_goals first
     | omega
     | exact HM' (by omega)
     | exact congrArg (fun z => some (Value.int IntKind.i64 z)) (by omega)
  ·obtain rfl : k = n := by omega
   go_wp2
   go_ret
   refine ⟨rfl, rd_of_heap (fun h => ?_) (by omega), hb⟩
   obtain ⟨g, cur, hA, hh, hs, hm2⟩ := hcur h
   exact ⟨g, cur, _, _, hA, hh, hm2⟩
def atX (xs : List Value) (k : Nat) (b : Nat) : Prop := ∃ i x, i < k ∧ xs[i]? = some x ∧ x.ownBlock = some b
theorem atB_own {A : Option Addr} {n c g : Nat} (h : (Value.slice A n c).ownBlock = some g) : ∃ o t, A = some ⟨g, o, t⟩ := by
 cases A with
 | none => cases h
 | some a => cases h; exact ⟨_, _, rfl⟩
def atR (a : RA) (xs : List Value) (b : Nat) : Prop := atB a.A b ∨ atB a.B b ∨ atB a.U b ∨ atX xs a.np b ∨ atB a.L b
theorem room_rng {w : World} {lo : Nat} {a : RA} {r : Rm} {xs : List Value} (h : RoomOwn w lo a r xs) : ∀ k, atR a xs k → lo ≤ k ∧ k < w.heap.size := by
 rintro k (h1 | h1 | h1 | ⟨i, x, hi, hx, hk⟩ | h1)
 ·exact own_rng h.par k h1
 ·exact own_rng h.nodes k h1
 ·exact own_rng h.up k h1
 ·obtain ⟨ps, hps⟩ : ∃ ps, r.profs[i]? = some ps := ⟨_, zgh (by have := h.profs.len; omega)⟩
  have ho := (h.profs.each i x ps hx hps).2
  obtain ⟨B, c', rfl, _⟩ := zAt ho
  obtain ⟨o, t, rfl⟩ := atB_own hk
  have h2 := own_ge ho k rfl
  rcases ho.2 with ⟨h0, _⟩ | ⟨g, cap, cur, hv, hg, hh, _⟩
  ·cases h0
  ·cases hv; exact ⟨hg, zAf hh⟩
 ·exact own_rng h.lics k h1
theorem OwnP.fr {S : Nat → Prop} {w w' : World} {lo : Nat} {A : Option Addr} {n c : Nat} {xs : List Value} {pss : List (List Q)} (h : OwnP w lo (.slice A n c) n xs pss) (hb : Fr S w w') (h1 : ∀ k, atB A k → ¬ S k) (h2 : ∀ k, atX xs n k → ¬ S k) : OwnP w' lo (.slice A n c) n xs pss :=
 ⟨own_fr h.own hb (fun k hk => h1 k (by obtain ⟨o, t, rfl⟩ := atB_own hk; rcases h.own.2 with ⟨h0, _⟩ | ⟨g, cap, cur, hv, _⟩; · cases h0
                                        ·cases hv; cases hk; exact ⟨0, rfl⟩)), h.len, fun k x ps hx hp => ⟨(h.each k x ps hx hp).1, own_fr (h.each k x ps hx hp).2 hb (fun b hk => h2 b ⟨k, x, by have := (List.getElem?_eq_some_iff.1 hx).1; have := h.xlen; omega, hx, hk⟩)⟩, h.apart⟩
theorem ownp_x {w : World} {lo lo' : Nat} {R A : Option Addr} {n c m d size : Nat} {e : TypeId} {xs ys : List Value} {pss : List (List Q)} (h : OwnP w lo (.slice R n c) n xs pss) (h' : w.ownsRow lo' e size (.slice A m d) m ys) (he : 177 ≠ e) : ∀ k, atB A k → ¬ atX xs n k := by
 rintro k ⟨o, rfl⟩ ⟨i, x, hi, hx, ho⟩
 obtain ⟨ps, hps⟩ : ∃ ps, pss[i]? = some ps := ⟨_, zgh (by have := h.len; omega)⟩
 exact own_ap (h.each i x ps hx hps).2 h' he k ho rfl
end Go.Proofs.YtnphjhbfpoekpaaGreat
