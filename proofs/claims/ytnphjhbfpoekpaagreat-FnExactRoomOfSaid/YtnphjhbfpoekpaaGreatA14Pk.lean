import Derived.Test.YtnphjhbfpoekpaaGreatA3Pk
import Derived.Test.YtnphjhbfpoekpaaGreatA1Pk
import Derived.Laws.BitsAllLaws
import Derived.Laws.BitsLemmas
import Derived.Lib.Hide
namespace Go.Proofs.YtnphjhbfpoekpaaGreat
set_option linter.unusedSimpArgs false
set_option linter.unusedVariables false
set_option linter.unnecessarySimpa false
open Go.RowKit
def ByIn (w : World) (A : Option Addr) (n : Nat) : Prop :=
 0 < n → ∃ b off, A = some ⟨b, off, none⟩ ∧ b < w.heap.size ∧ ∀ k, k < n → ∃ z : Int, 0 ≤ z ∧ z ≤ 255 ∧ w.cell? ⟨b, off + k, none⟩ = some (.int .u8 z)
theorem ByIn.below {w w' : World} {A : Option Addr} {n : Nat} (h : ByIn w A n) (hb : Below w.heap.size w w') : ByIn w' A n := fun hn => by
 obtain ⟨b, off, rfl, hl, hc⟩ := h hn
 refine ⟨b, off, rfl, Nat.lt_of_lt_of_le hl hb.size, fun k hk => ?_⟩
 obtain ⟨z, h0, h1, h2⟩ := hc k hk
 exact ⟨z, h0, h1, (hb.cell (p := ⟨b, _, none⟩) hl).trans h2⟩
structure Cur (w : World) (g : Nat) : Prop where
 ex : ∃ (A : Option Addr) (n c : Nat) (pos st : Int), w.heap[g]? = some (.cells #[.slice A n c, .int .i64 pos, .int .i64 st] 168 (0, 0)) ∧ 0 ≤ pos ∧ pos ≤ n ∧ n ≤ 1048576 ∧ ByIn w A n ∧ (0 < n → ∀ k, atB A k → k < g)
theorem Cur.lt {w : World} {g : Nat} (h : Cur w g) : g < w.heap.size := by obtain ⟨A, n, c, pos, st, h, _⟩ := h.ex; exact zAf h
theorem Cur.below {w w' : World} {g : Nat} (h : Cur w g) (hb : Below w.heap.size w w') : Cur w' g := by
 obtain ⟨A, n, c, pos, st, h1, h2, h3, h4, h5, h6⟩ := h.ex
 exact ⟨A, n, c, pos, st, zAg h1 hb, h2, h3, h4, h5.below hb, h6⟩
theorem ByIn.set {w : World} {A : Option Addr} {n : Nat} (h : ByIn w A n) {p : Addr} (hp : 0 < n → ∀ k, atB A k → k ≠ p.block) (v : Value) : ByIn (w.setCell p v) A n := fun hn => by
 obtain ⟨b, off, rfl, hl, hc⟩ := h hn
 refine ⟨b, off, rfl, by simpa using hl, fun k hk => ?_⟩
 obtain ⟨z, h0, h1, h2⟩ := hc k hk
 refine ⟨z, h0, h1, ?_⟩
 rw [World.cell?_of_block (Below.heap_setCell w p v b (hp hn b ⟨off, rfl⟩))]
 exact h2
theorem ByIn.drewN {w : World} {A : Option Addr} {n : Nat} (h : ByIn w A n) (k : Nat) : ByIn (w.drewN k) A n := h
theorem ByIn.drew {w : World} {A : Option Addr} {n : Nat} (h : ByIn w A n) : ByIn w.drew A n := h
theorem Fr.drewN {S : Nat → Prop} {a w : World} (h : Fr S a w) (k : Nat) : Fr S a (w.drewN k) := ⟨h.os, h.tape, h.output, h.size, h.block⟩
theorem Cur.set {w : World} {g : Nat} (h : Cur w g) {p : Addr} (hp : g < p.block) (v : Value) : Cur (w.setCell p v) g := by
 obtain ⟨A, n, c, pos, st, h1, h2, h3, h4, h5, h6⟩ := h.ex
 exact ⟨A, n, c, pos, st, bx_set h1 (by omega) v, h2, h3, h4, h5.set (fun hn k hk => by have := h6 hn k hk; omega) v, h6⟩
theorem Cur.alloc {w : World} {g : Nat} (h : Cur w g) (o : Obj) : Cur (w.alloc o) g := h.below (zAa w o)
theorem Cur.drewN {w : World} {g : Nat} (h : Cur w g) (k : Nat) : Cur (w.drewN k) g := ⟨h.ex⟩
theorem Cur.drew {w : World} {g : Nat} (h : Cur w g) : Cur w.drew g := ⟨h.ex⟩
theorem Fr.bel {S : Nat → Prop} {w w' : World} (h : Fr S w w') {B : Nat} (hS : ∀ k, S k → B ≤ k) (hB : B ≤ w.heap.size) : Below B w w' := h.below hS hB
theorem ByIn.lt {w : World} {A : Option Addr} {n : Nat} (h : ByIn w A n) (hn : 0 < n) : ∀ k, atB A k → k < w.heap.size := by
 obtain ⟨b, off, rfl, hl, _⟩ := h hn
 rintro k ⟨o, e⟩
 injection e with e
 injection e with e
 omega
end Go.Proofs.YtnphjhbfpoekpaaGreat
