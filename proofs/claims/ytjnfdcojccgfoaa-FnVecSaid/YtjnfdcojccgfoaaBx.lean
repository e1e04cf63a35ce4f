/-
  Whole blocks: what a block of the call's own holds, and that rows of another type lie elsewhere.
-/
import Derived.Test.YtjnfdcojccgfoaaMa
namespace Go.Proofs.Ytjnfdcojccgfoaa
set_option linter.unusedSimpArgs false
set_option linter.unusedVariables false
set_option linter.unnecessarySimpa false
open Go.RowKit
theorem bx_cell {w : World} {b : Nat} {e : TypeId} {vs : Array Value} (h : w.heap[b]? = some (.cells vs e (0, 0))) (i : Nat) {u : Value} (hi : vs[i]? = some u) : w.cell? ⟨b, i, none⟩ = some u := by
  simp only [World.cell?, h]; exact hi
theorem bx_frz {w : World} {b : Nat} {e : TypeId} {vs : Array Value} (h : w.heap[b]? = some (.cells vs e (0, 0))) : ∀ o, w.frozen? ⟨b, o, none⟩ = false := fun _ => frozen_of_heap h
theorem bx_below {w w' : World} {b : Nat} {o : Obj} (h : w.heap[b]? = some o) (hb : Below w.heap.size w w') : w'.heap[b]? = some o := (hb.block b (heap_lt h)).trans h
theorem bx_alloc {w : World} {b : Nat} {o : Obj} (h : w.heap[b]? = some o) (o' : Obj) : (w.alloc o').heap[b]? = some o := bx_below h (below_alloc w o')
theorem bx_drew {w : World} {b : Nat} {o : Obj} (h : w.heap[b]? = some o) : w.drew.heap[b]? = some o := h
theorem bx_fr {S : Nat → Prop} {w w' : World} {b : Nat} {o : Obj} (h : w.heap[b]? = some o) (hb : Fr S w w') (hn : ¬ S b) : w'.heap[b]? = some o := (hb.block b (heap_lt h) hn).trans h
theorem bx_grown {w w' : World} {row : Option Nat} {b : Nat} {o : Obj} (h : w.heap[b]? = some o) (hg : w.grownBy w' row) (hn : ∀ k, row = some k → k ≠ b) : w'.heap[b]? = some o :=
  (hg.block b (heap_lt h) fun e => hn b e.symm rfl).trans h
theorem bx_set {w : World} {b : Nat} {o : Obj} (h : w.heap[b]? = some o) {a : Addr} (hn : b ≠ a.block) (u : Value) : (w.setCell a u).heap[b]? = some o := by
  rw [Below.heap_setCell w a u b hn]; exact h
theorem own_ne {w : World} {lo : Nat} {e e' : TypeId} {size : Nat} {v : Value} {n : Nat} {xs : List Value} {b : Nat} {vs : Array Value} {f : Nat × Nat} (h : w.ownsRow lo e size v n xs) (hb : w.heap[b]? = some (.cells vs e' f)) (he : e ≠ e') : ∀ k, v.ownBlock = some k → k ≠ b := by
  intro k hk ek
  subst ek
  rcases h.2 with ⟨rfl, _⟩ | ⟨g, cap, cur, rfl, hg, hh, _⟩
  · simp [Value.ownBlock] at hk
  · simp [Value.ownBlock] at hk
    subst hk
    rw [hh] at hb
    injection hb with h1
    injection h1 with _ h2
    exact he h2
theorem own_set {w : World} {lo : Nat} {e : TypeId} {size : Nat} {v : Value} {n : Nat} {xs : List Value} (h : w.ownsRow lo e size v n xs) {a : Addr} (hn : ∀ k, v.ownBlock = some k → k ≠ a.block) (u : Value) : (w.setCell a u).ownsRow lo e size v n xs := by
  rcases h with ⟨hl, ⟨rfl, rfl⟩ | ⟨g, cap, cur, rfl, hg, hh, h1⟩⟩
  · exact ⟨hl, Or.inl ⟨rfl, rfl⟩⟩
  · exact ⟨hl, Or.inr ⟨g, cap, cur, rfl, hg, bx_set hh (hn g rfl) u, h1⟩⟩
theorem own_fr {S : Nat → Prop} {w w' : World} {lo : Nat} {e : TypeId} {size : Nat} {v : Value} {n : Nat} {xs : List Value} (h : w.ownsRow lo e size v n xs) (hb : Fr S w w') (hn : ∀ k, v.ownBlock = some k → ¬ S k) : w'.ownsRow lo e size v n xs := by
  rcases h with ⟨hl, ⟨rfl, rfl⟩ | ⟨g, cap, cur, rfl, hg, hh, h1⟩⟩
  · exact ⟨hl, Or.inl ⟨rfl, rfl⟩⟩
  · exact ⟨hl, Or.inr ⟨g, cap, cur, rfl, hg, bx_fr hh hb (hn g rfl), h1⟩⟩
theorem own_bel {w w' : World} {lo : Nat} {e : TypeId} {size : Nat} {v : Value} {n : Nat} {xs : List Value} (h : w.ownsRow lo e size v n xs) (hb : Below w.heap.size w w') : w'.ownsRow lo e size v n xs := own_below h hb (own_lt h)
theorem own_grown {w w' : World} {row : Option Nat} {lo : Nat} {e : TypeId} {size : Nat} {v : Value} {n : Nat} {xs : List Value} (h : w.ownsRow lo e size v n xs) (hg : w.grownBy w' row) (hn : ∀ k, v.ownBlock = some k → row ≠ some k) : w'.ownsRow lo e size v n xs := by
  rcases h with ⟨hl, ⟨rfl, rfl⟩ | ⟨g, cap, cur, rfl, hgl, hh, h1⟩⟩
  · exact ⟨hl, Or.inl ⟨rfl, rfl⟩⟩
  · exact ⟨hl, Or.inr ⟨g, cap, cur, rfl, hgl, bx_grown hh hg (fun k hk e => hn g rfl (by rw [hk, e])), h1⟩⟩
theorem own_apart {w : World} {lo lo' : Nat} {e e' : TypeId} {size size' : Nat} {A B : Option Addr} {n c m d : Nat} {xs ys : List Value} (h : w.ownsRow lo e size (.slice A n c) n xs) (h' : w.ownsRow lo' e' size' (.slice B m d) m ys) (he : e ≠ e') : ∀ k, atB A k → ¬ atB B k := by
  rintro k ⟨o, hA⟩ ⟨o', hB⟩
  rcases h with ⟨_, ⟨hv, _⟩ | ⟨g, cap, cur, hv, _, hh, _⟩⟩
  · injection hv with a1; rw [a1] at hA; cases hA
  · rcases h' with ⟨_, ⟨hv', _⟩ | ⟨g', cap', cur', hv', _, hh', _⟩⟩
    · injection hv' with a1; rw [a1] at hB; cases hB
    · injection hv with a1
      injection hv' with a2
      rw [a1] at hA
      rw [a2] at hB
      injection hA with hA
      injection hA with h1
      injection hB with hB
      injection hB with h2
      rw [h1] at hh
      rw [h2, hh] at hh'
      injection hh' with h3
      injection h3 with _ h4
      exact he h4
theorem own_lit {w : World} {lo g : Nat} {e : TypeId} {size n : Nat} {cs : List Value} (hh : w.heap[g]? = some (.cells cs.toArray e (0, 0))) (hl : cs.length = n * size) (hn : n ≤ maxLen) (hg : lo ≤ g) :
    w.ownsRow lo e size (.slice (some ⟨g, 0, none⟩) n n) n cs :=
  ⟨hl, Or.inr ⟨g, n, cs.toArray, rfl, hg, hh, Nat.le_refl _, hn, by simpa using hl, by rw [← hl]; simp⟩⟩
theorem heap_at {w : World} (o : Obj) {k : Nat} (h : k = w.heap.size) : (w.alloc o).heap[k]? = some o := by rw [h]; exact heap_alloc_new w o
theorem own_nil (w : World) (lo : Nat) (e : TypeId) (size : Nat) : w.ownsRow lo e size (.slice none 0 0) 0 [] := ⟨by simp, Or.inl ⟨rfl, rfl⟩⟩
end Go.Proofs.Ytjnfdcojccgfoaa
