import Derived.Test.YtnphjhbfpoekpaaGreatA1Pl
import Derived.Deep.RegionWith
import Derived.Deep.RegionHeld3
namespace Go.Proofs.YtnphjhbfpoekpaaGreat
set_option linter.unusedSimpArgs false
set_option linter.unusedVariables false
set_option linter.unnecessarySimpa false
open Go.RowKit
set_option maxHeartbeats 400000 in
theorem sTime_any (x : Int) (w : World) :
  Calls Tryz.prog 60 #[.int .i64 x] w fun e w' => e = .returned (.bool (timeB x)) ∧ w = w' := by
 by_cases h1 : 0 ≤ x
 ·go_enter Tryz.func60, Tryz.ntmps60
  go_wp2
  go_ret
  exact ⟨zAj (by simp [timeB, inB, h1]), rfl⟩
 ·go_enter Tryz.func60, Tryz.ntmps60
  go_wp2
  go_ret
  exact ⟨zAj (by simp [timeB, inB]; omega), rfl⟩
theorem own_empty (w : World) (e : TypeId) : (w.alloc (.cells #[] e)).ownsRow w.heap.size e 1 (.slice (some ⟨w.heap.size, 0, none⟩) 0 0) 0 [] :=
 ⟨rfl, Or.inr ⟨w.heap.size, 0, #[], rfl, Nat.le_refl _, heap_alloc_new w _, Nat.le_refl _, by simp, rfl, rfl⟩⟩
theorem own_ge {w : World} {base : Nat} {e : TypeId} {size n : Nat} {v : Value} {xs : List Value} (h : w.ownsRow base e size v n xs) : ∀ k, v.ownBlock = some k → base ≤ k := by
 intro k hk
 rcases h.2 with ⟨rfl, _⟩ | ⟨g, cap, cur, rfl, hg, _⟩
 ·simp [Value.ownBlock] at hk
 ·simp [Value.ownBlock] at hk; omega
def Rd (w : World) (A : Option Addr) (n size : Nat) (xs : List Value) : Prop :=
 xs.length = n * size ∧ (0 < n → ∃ g, A = some ⟨g, 0, none⟩ ∧ ∀ (j : Nat) u, xs[j]? = some u → w.cell? ⟨g, j, none⟩ = some u)
theorem Rd.at_ {w : World} {A : Option Addr} {n : Nat} {xs : List Value} (h : Rd w A n 1 xs) {k : Nat} (hk : k < n) : ∃ g u, A = some ⟨g, 0, none⟩ ∧ xs[k]? = some u ∧ w.cell? ⟨g, k, none⟩ = some u := by
 obtain ⟨g, rfl, hc⟩ := h.2 (by omega)
 have hl : k < xs.length := by have := h.1; omega
 exact ⟨g, xs[k], rfl, zgh hl, hc k _ (zgh hl)⟩
theorem Rd.drewN {w : World} {A : Option Addr} {n size : Nat} {xs : List Value} (h : Rd w A n size xs) (k : Nat) : Rd (w.drewN k) A n size xs := h
theorem zAt {w : World} {lo : Nat} {e : TypeId} {size : Nat} {v : Value} {n : Nat} {xs : List Value} (h : w.ownsRow lo e size v n xs) : ∃ A c, v = .slice A n c ∧ Rd w A n size xs := by
 rcases h with ⟨hl, ⟨rfl, rfl⟩ | ⟨g, cap, cur, rfl, hg, hh, h1, h2, h3, h4⟩⟩
 ·exact ⟨none, 0, rfl, hl, fun h => absurd h (by omega)⟩
 ·refine ⟨_, _, rfl, hl, fun _ => ⟨g, rfl, fun j u hj => ?_⟩⟩
  rw [← h4, List.getElem?_take] at hj
  split at hj
  ·simp only [World.cell?, hh]
   simpa using hj
  ·cases hj
theorem own_lt {w : World} {lo : Nat} {e : TypeId} {size : Nat} {v : Value} {n : Nat} {xs : List Value} (h : w.ownsRow lo e size v n xs) : ∀ k, v.ownBlock = some k → k < w.heap.size := by
 intro k hk
 rcases h.2 with ⟨rfl, _⟩ | ⟨g, cap, cur, rfl, hg, hh, _⟩
 ·simp [Value.ownBlock] at hk
 ·simp [Value.ownBlock] at hk
  subst hk
  rcases Nat.lt_or_ge g w.heap.size with h | h
  ·exact h
  ·rw [Array.getElem?_eq_none h] at hh; cases hh
theorem own_below {w w' : World} {lo B : Nat} {e : TypeId} {size : Nat} {v : Value} {n : Nat} {xs : List Value} (h : w.ownsRow lo e size v n xs) (hb : Below B w w') (hlt : ∀ k, v.ownBlock = some k → k < B) : w'.ownsRow lo e size v n xs := by
 rcases h with ⟨hl, ⟨rfl, rfl⟩ | ⟨g, cap, cur, rfl, hg, hh, h1⟩⟩
 ·exact ⟨hl, Or.inl ⟨rfl, rfl⟩⟩
 ·exact ⟨hl, Or.inr ⟨g, cap, cur, rfl, hg, (hb.block g (hlt g rfl)).trans hh, h1⟩⟩
theorem zAd {B : Nat} (w : World) (k : Nat) : Below B w (w.drewN k) := ⟨rfl, rfl, rfl, Nat.le_refl _, fun _ _ => rfl⟩
set_option maxHeartbeats 1000000 in
theorem eqIntS_any (A A' : Option Addr) (n c c' : Nat) (bs : List Int) (w : World) (hn : n ≤ 1048577) (ha : Rd w A n 1 (bs.map (Value.int .i64))) (hb : Rd w A' n 1 (bs.map (Value.int .i64))) :
  Calls Tryz.prog 121 #[.slice A n c, .slice A' n c'] w fun e w' => e = .returned (.bool true) ∧ ∃ k, w' = w.drewN k := by
 have hm : n ≤ 9223372036854775807 := by omega
 clear hn
 have HA := Lib.hid ha
 have HB := Lib.hid hb
 clear ha hb
 go_enter Tryz.func121, Tryz.ntmps121
 go_wp2
 go_loopw [5] (fun i wr => ∃ k q : Nat, k ≤ n ∧ i = .int .i64 k ∧ wr = w.drewN q) (fun i _ => n - (intOf i).toNat)
 case atStart => exact ⟨0, 0, Nat.zero_le _, rfl, rfl⟩
 case round =>
  obtain ⟨k, q, hk, rfl, rfl⟩ := hrel
  by_cases hlt : k < n
  ·obtain ⟨g, u, rfl, hu, hc⟩ := HA.out.at_ hlt
   obtain ⟨g', u', rfl, hu', hc'⟩ := HB.out.at_ hlt
   obtain rfl : u = u' := by rw [hu] at hu'; exact Option.some.inj hu'
   obtain ⟨x, rfl⟩ : ∃ x, u = Value.int .i64 x := by
    rw [List.getElem?_map] at hu
    cases hz : bs[k]? with
    | none => rw [hz] at hu; cases hu
    | some x => rw [hz] at hu; exact ⟨x, (Option.some.inj hu).symm⟩
   clear hu hu' HA HB
   have hlt' : (k : Int) < n := by omega
   go_wp2
   go_quiet (fail)
   go_wp2
   go_roundw
   case rel => exact ⟨k + 1, _, by omega, by go_num, rfl⟩
   case measure => simp [intOf]; omega
  ·go_wp2
   go_ret
   exact ⟨rfl, q, rfl⟩
set_option maxHeartbeats 1000000 in
theorem eqBoolS_any (A A' : Option Addr) (n c c' : Nat) (bs : List Bool) (w : World) (hn : n ≤ 1048577) (ha : Rd w A n 1 (bs.map Value.bool)) (hb : Rd w A' n 1 (bs.map Value.bool)) :
  Calls Tryz.prog 77 #[.slice A n c, .slice A' n c'] w fun e w' => e = .returned (.bool true) ∧ ∃ k, w' = w.drewN k := by
 have hm : n ≤ 9223372036854775807 := by omega
 clear hn
 have HA := Lib.hid ha
 have HB := Lib.hid hb
 clear ha hb
 go_enter Tryz.func77, Tryz.ntmps77
 go_wp2
 go_loopw [5] (fun i wr => ∃ k q : Nat, k ≤ n ∧ i = .int .i64 k ∧ wr = w.drewN q) (fun i _ => n - (intOf i).toNat)
 case atStart => exact ⟨0, 0, Nat.zero_le _, rfl, rfl⟩
 case round =>
  obtain ⟨k, q, hk, rfl, rfl⟩ := hrel
  by_cases hlt : k < n
  ·obtain ⟨g, u, rfl, hu, hc⟩ := HA.out.at_ hlt
   obtain ⟨g', u', rfl, hu', hc'⟩ := HB.out.at_ hlt
   obtain rfl : u = u' := by rw [hu] at hu'; exact Option.some.inj hu'
   obtain ⟨x, rfl⟩ : ∃ x, u = Value.bool x := by
    rw [List.getElem?_map] at hu
    cases hz : bs[k]? with
    | none => rw [hz] at hu; cases hu
    | some x => rw [hz] at hu; exact ⟨x, (Option.some.inj hu).symm⟩
   clear hu hu' HA HB
   have hlt' : (k : Int) < n := by omega
   go_wp2
   go_quiet (fail)
   go_wp2
   go_roundw
   case rel => exact ⟨k + 1, _, by omega, by go_num, rfl⟩
   case measure => simp [intOf]; omega
  ·go_wp2
   go_ret
   exact ⟨rfl, q, rfl⟩
end Go.Proofs.YtnphjhbfpoekpaaGreat
