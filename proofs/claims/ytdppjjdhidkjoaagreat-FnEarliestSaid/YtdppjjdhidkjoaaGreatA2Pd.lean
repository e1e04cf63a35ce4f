import Derived.Test.YtdppjjdhidkjoaaGreatA1Pd
import Derived.Deep.RegionWith
import Derived.Deep.RegionHeld3
namespace Go.Proofs.YtdppjjdhidkjoaaGreat
set_option linter.unusedSimpArgs false
set_option linter.unusedVariables false
set_option linter.unnecessarySimpa false
open Go.RowKit
set_option maxHeartbeats 400000 in
theorem sTime_any (x : Int) (w : World) :
    Calls Tryz.prog 90 #[.int .i64 x] w fun e w' => e = .returned (.bool (timeB x)) ∧ w = w' := by
  by_cases h1 : 0 ≤ x
  · go_enter Tryz.func90, Tryz.ntmps90
    go_wp2
    go_ret
    exact ⟨zAk (by simp [timeB, inB, h1]), rfl⟩
  · go_enter Tryz.func90, Tryz.ntmps90
    go_wp2
    go_ret
    exact ⟨zAk (by simp [timeB, inB]; omega), rfl⟩
end Go.Proofs.YtdppjjdhidkjoaaGreat

namespace Go.Proofs.YtdppjjdhidkjoaaGreat
set_option linter.unusedSimpArgs false
set_option linter.unusedVariables false
set_option linter.unnecessarySimpa false
open Go.RowKit
end Go.Proofs.YtdppjjdhidkjoaaGreat

namespace Go.Proofs.YtdppjjdhidkjoaaGreat
set_option linter.unusedSimpArgs false
set_option linter.unusedVariables false
set_option linter.unnecessarySimpa false
open Go.RowKit
end Go.Proofs.YtdppjjdhidkjoaaGreat

namespace Go.Proofs.YtdppjjdhidkjoaaGreat
set_option linter.unusedSimpArgs false
set_option linter.unusedVariables false
set_option linter.unnecessarySimpa false
open Go.RowKit
theorem own_empty (w : World) (e : TypeId) : (w.alloc (.cells #[] e)).ownsRow w.heap.size e 1 (.slice (some ⟨w.heap.size, 0, none⟩) 0 0) 0 [] :=
  ⟨rfl, Or.inr ⟨w.heap.size, 0, #[], rfl, Nat.le_refl _, heap_alloc_new w _, Nat.le_refl _, by simp, rfl, rfl⟩⟩
theorem zAu {w : World} {base : Nat} {e : TypeId} {size n : Nat} {v : Value} {xs : List Value} (h : w.ownsRow base e size v n xs) : ∀ k, v.ownBlock = some k → base ≤ k := by
  intro k hk
  rcases h.2 with ⟨rfl, _⟩ | ⟨g, cap, cur, rfl, hg, _⟩
  · simp [Value.ownBlock] at hk
  · simp [Value.ownBlock] at hk; omega
end Go.Proofs.YtdppjjdhidkjoaaGreat

namespace Go.Proofs.YtdppjjdhidkjoaaGreat
set_option linter.unusedSimpArgs false
set_option linter.unusedVariables false
set_option linter.unnecessarySimpa false
open Go.RowKit
def Rd (w : World) (A : Option Addr) (n size : Nat) (xs : List Value) : Prop :=
  xs.length = n * size ∧ (0 < n → ∃ g, A = some ⟨g, 0, none⟩ ∧ ∀ (j : Nat) u, xs[j]? = some u → w.cell? ⟨g, j, none⟩ = some u)
theorem Rd.at_ {w : World} {A : Option Addr} {n : Nat} {xs : List Value} (h : Rd w A n 1 xs) {k : Nat} (hk : k < n) : ∃ g u, A = some ⟨g, 0, none⟩ ∧ xs[k]? = some u ∧ w.cell? ⟨g, k, none⟩ = some u := by
  obtain ⟨g, rfl, hc⟩ := h.2 (by omega)
  have hl : k < xs.length := by have := h.1; omega
  exact ⟨g, xs[k], rfl, List.getElem?_eq_getElem hl, hc k _ (List.getElem?_eq_getElem hl)⟩
theorem Rd.drewN {w : World} {A : Option Addr} {n size : Nat} {xs : List Value} (h : Rd w A n size xs) (k : Nat) : Rd (w.drewN k) A n size xs := h
theorem zAp {w : World} {lo : Nat} {e : TypeId} {size : Nat} {v : Value} {n : Nat} {xs : List Value} (h : w.ownsRow lo e size v n xs) : ∃ A c, v = .slice A n c ∧ Rd w A n size xs := by
  rcases h with ⟨hl, ⟨rfl, rfl⟩ | ⟨g, cap, cur, rfl, hg, hh, h1, h2, h3, h4⟩⟩
  · exact ⟨none, 0, rfl, hl, fun h => absurd h (by omega)⟩
  · refine ⟨_, _, rfl, hl, fun _ => ⟨g, rfl, fun j u hj => ?_⟩⟩
    rw [← h4, List.getElem?_take] at hj
    split at hj
    · simp only [World.cell?, hh]
      simpa using hj
    · cases hj
theorem own_lt {w : World} {lo : Nat} {e : TypeId} {size : Nat} {v : Value} {n : Nat} {xs : List Value} (h : w.ownsRow lo e size v n xs) : ∀ k, v.ownBlock = some k → k < w.heap.size := by
  intro k hk
  rcases h.2 with ⟨rfl, _⟩ | ⟨g, cap, cur, rfl, hg, hh, _⟩
  · simp [Value.ownBlock] at hk
  · simp [Value.ownBlock] at hk
    subst hk
    rcases Nat.lt_or_ge g w.heap.size with h | h
    · exact h
    · rw [Array.getElem?_eq_none h] at hh; cases hh
theorem own_below {w w' : World} {lo B : Nat} {e : TypeId} {size : Nat} {v : Value} {n : Nat} {xs : List Value} (h : w.ownsRow lo e size v n xs) (hb : Below B w w') (hlt : ∀ k, v.ownBlock = some k → k < B) : w'.ownsRow lo e size v n xs := by
  rcases h with ⟨hl, ⟨rfl, rfl⟩ | ⟨g, cap, cur, rfl, hg, hh, h1⟩⟩
  · exact ⟨hl, Or.inl ⟨rfl, rfl⟩⟩
  · exact ⟨hl, Or.inr ⟨g, cap, cur, rfl, hg, (hb.block g (hlt g rfl)).trans hh, h1⟩⟩
theorem zAb {B : Nat} (w : World) (k : Nat) : Below B w (w.drewN k) := ⟨rfl, rfl, rfl, Nat.le_refl _, fun _ _ => rfl⟩

theorem zBe {lo : Nat} {w w' : World} (h : Below lo w w' := by repeat (first | exact Below.refl _ _ | assumption | (refine zAd ?_ (zAb _ _)) | exact zAd (by assumption) (by assumption) | (refine zAd ?_ (zAa _ _)) | (refine zAd ?_ (by assumption)) | (refine Below.setCell ?_ (by simp <;> omega) _) | refine Below.drew ?_)) : Below lo w w' := h
theorem zOm {p : Prop} (h : p := by first | omega | (simp <;> omega)) : p := h
end Go.Proofs.YtdppjjdhidkjoaaGreat
