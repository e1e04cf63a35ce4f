/-
  Of rows and rooms: what the laws need.
-/
import Derived.Test.YtdppjjdhidkjoaaGreatFkPb
import Derived.Test.YtdppjjdhidkjoaaGreatFjPb
import Derived.Test.YtdppjjdhidkjoaaGreatVkPb
import Derived.Test.YtdppjjdhidkjoaaGreatFhPb
import Derived.Deep.RegionHeld3
namespace Go.Proofs.YtdppjjdhidkjoaaGreat
set_option linter.unusedSimpArgs false
set_option linter.unusedVariables false
set_option linter.unnecessarySimpa false
open Go.RowKit
theorem own_cap9 {w : World} {lo : Nat} {e : TypeId} {size : Nat} {A : Option Addr} {n c : Nat} {xs : List Value} (h : w.ownsRow lo e size (.slice A n c) n xs) : n ≤ c ∧ c ≤ 9223372036854775807 := by
  rcases h.2 with ⟨h0, h1⟩ | ⟨g, cap, cur, hv, _, _, h3, h4, _⟩
  · cases h0; omega
  · cases hv; unfold maxLen at h4; exact ⟨h3, h4⟩
theorem heap_at9 (w : World) (o : Obj) : (w.alloc o).heap[w.heap.size]? = some o := heap_at _ rfl
theorem heap_at9d (w : World) (o : Obj) : (w.alloc o).drew.heap[w.heap.size]? = some o := bx_drew (heap_at _ rfl)
theorem own_nb {w : World} {lo : Nat} {e : TypeId} {size : Nat} {A : Option Addr} {n c m : Nat} {xs : List Value} {t : TypeId} {vs : Array Value} {f : Nat × Nat} {b : Nat} (h : w.ownsRow lo e size (.slice A n c) m xs) (hb : w.heap[b]? = some (.cells vs t f)) (he : e ≠ t) : ¬ atB A b := fun h1 => own_ne h hb he b (atB_own' h1) rfl
theorem RoomOwn.nbox {w : World} {lo : Nat} {a : RA} {r : Rm} {xs : List Value} (h : RoomOwn w lo a r xs) {b : Nat} {vs : Array Value} {f : Nat × Nat} (hb : w.heap[b]? = some (.cells vs 33 f)) : ¬ atQ a xs b := by
  rintro ((h1 | h1 | h1 | ⟨i, x, hi, hx, hk⟩ | h1) | h1)
  · exact own_nb h.par hb (by decide) h1
  · exact own_nb h.nodes hb (by decide) h1
  · exact own_nb h.up hb (by decide) h1
  · obtain ⟨ps, hps⟩ : ∃ ps, r.profs[i]? = some ps := ⟨_, List.getElem?_eq_getElem (by have := h.profs.len; omega)⟩
    exact own_ne (h.profs.each i x ps hx hps).2 hb (by decide) b hk rfl
  · exact own_nb h.lics hb (by decide) h1
  · exact own_nb h.profs.own hb (by decide) h1
end Go.Proofs.YtdppjjdhidkjoaaGreat
