/-
  A drawn topology: what the drawing keeps.
-/
import Derived.Test.YtpfcegjomdppmaaA8
import Derived.Test.YtpfcegjomdppmaaA14
import Derived.Test.YtpfcegjomdppmaaA5
import Derived.Maps.AppendAt
namespace Go.Proofs.Ytpfcegjomdppmaa
set_option linter.unusedSimpArgs false
set_option linter.unusedVariables false
set_option linter.unnecessarySimpa false
open Go.RowKit
theorem below_drewN9 {B : Nat} {a w : World} (h : Below B a w) (k : Nat) : Below B a (w.drewN k) := ⟨h.os, h.tape, h.output, h.size, h.block⟩
theorem Fr.of_bel {S : Nat → Prop} {w wr w' : World} (h : Fr S w wr) (hb : Below wr.heap.size wr w') : Fr S w w' := h.trans (Fr.of_below S hb)
theorem Fr.grown {S : Nat → Prop} {w wr w' : World} (h : Fr S w wr) {row : Option Nat} (hg : wr.grownBy w' row) (hr : ∀ k, row = some k → w.heap.size ≤ k) : Fr S w w' := by
  refine ⟨hg.os.trans h.os, hg.tape.trans h.tape, hg.output.trans h.output, Nat.le_trans h.size hg.size, fun k hk hn => ?_⟩
  rw [hg.block k (Nat.lt_of_lt_of_le hk h.size) (fun e => by have := hr k e.symm; omega)]
  exact h.block k hk hn
theorem Cur.grown {w w' : World} {g : Nat} (h : Cur w g) {row : Option Nat} (hg : w.grownBy w' row) (hr : ∀ k, row = some k → g < k) : Cur w' g := by
  obtain ⟨A, n, c, pos, st, h1, h2, h3, h4, h5, h6⟩ := h.ex
  refine ⟨A, n, c, pos, st, bx_grown h1 hg (fun k hk => by have := hr k hk; omega), h2, h3, h4, ?_, h6⟩
  intro hn
  obtain ⟨b, off, rfl, hl, hc⟩ := h5 hn
  refine ⟨b, off, rfl, Nat.lt_of_lt_of_le hl hg.size, fun k hk => ?_⟩
  obtain ⟨z, h0, h1', h2'⟩ := hc k hk
  exact ⟨z, h0, h1', (World.cell?_of_block (hg.block b hl (fun e => by have := hr b e.symm; have := h6 hn b ⟨off, rfl⟩; omega))).trans h2'⟩
/-- What the drawing of the switches keeps. -/
structure DT (w wr : World) (g b0 b : Nat) (ps : List Int) (L : Value) (ls : List Int) (X : Value) (xs : List Int) : Prop where
  box : ∃ A c, wr.heap[b]? = some (.cells #[.slice A ps.length c, .slice none 0 0] 26 (0, 0)) ∧ wr.ownsRow w.heap.size 3 1 (.slice A ps.length c) ps.length (ints ps) ∧ ∀ k, (Value.slice A ps.length c).ownBlock = some k → L.ownBlock ≠ some k ∧ X.ownBlock ≠ some k
  last : wr.ownsRow w.heap.size 3 1 L ls.length (ints ls)
  next : wr.ownsRow w.heap.size 3 1 X xs.length (ints xs)
  ap : ∀ k, L.ownBlock = some k → X.ownBlock ≠ some k
  res : wr.heap[b0]? = some (.cells #[.slice none 0 0, .slice none 0 0] 26 (0, 0))
  cur : Cur wr g
  fr : Fr (· = g) w wr
  hb : b0 < b ∧ w.heap.size ≤ b0 ∧ g < w.heap.size
  nl : ∀ x ∈ ls, 0 ≤ x
  nx : ∀ x ∈ xs, 0 ≤ x
theorem DT.bel {w wr w' : World} {g b0 b : Nat} {ps ls xs : List Int} {L X : Value} (h : DT w wr g b0 b ps L ls X xs) (hb : Below wr.heap.size wr w') : DT w w' g b0 b ps L ls X xs := by
  obtain ⟨A, c, h1, h2, h3⟩ := h.box
  exact ⟨⟨A, c, bx_below h1 hb, own_bel h2 hb, h3⟩, own_bel h.last hb, own_bel h.next hb, h.ap, bx_below h.res hb, h.cur.below hb, h.fr.of_bel hb, h.hb, h.nl, h.nx⟩
theorem DT.cs {w wr w' : World} {g b0 b : Nat} {ps ls xs : List Int} {L X : Value} (h : DT w wr g b0 b ps L ls X xs) (hf : Fr (· = g) wr w') (hc : Cur w' g) : DT w w' g b0 b ps L ls X xs := by
  obtain ⟨A, c, h1, h2, h3⟩ := h.box
  have hh := h.hb
  refine ⟨⟨A, c, bx_fr h1 hf (by omega), own_fr h2 hf (fun k hk e => by have := own_ge h2 k hk; omega), h3⟩, own_fr h.last hf (fun k hk e => by have := own_ge h.last k hk; omega), own_fr h.next hf (fun k hk e => by have := own_ge h.next k hk; omega), h.ap, bx_fr h.res hf (by omega), hc, h.fr.trans hf, h.hb, h.nl, h.nx⟩
/-- A new row takes the place of the next one. -/
theorem DT.setNext {w wr : World} {g b0 b : Nat} {ps ls xs : List Int} {L X : Value} (h : DT w wr g b0 b ps L ls X xs) {Y : Value} (hy : wr.ownsRow w.heap.size 3 1 Y 0 []) (hf : Y = .slice none 0 0 ∨ ∀ k, Y.ownBlock = some k → (∀ j, L.ownBlock = some j → j < k) ∧ (∀ A n c j, wr.ownsRow w.heap.size 3 1 (.slice A n c) n (ints ps) → (Value.slice A n c).ownBlock = some j → j < k)) : DT w wr g b0 b ps L ls Y [] := by
  obtain ⟨A, c, h1, h2, h3⟩ := h.box
  rcases hf with rfl | hf
  · exact ⟨⟨A, c, h1, h2, fun k hk => ⟨(h3 k hk).1, by simp [Value.ownBlock]⟩⟩, h.last, hy, fun k hk => by simp [Value.ownBlock], h.res, h.cur, h.fr, h.hb, h.nl, by simp⟩
  · refine ⟨⟨A, c, h1, h2, fun k hk => ⟨(h3 k hk).1, fun e => ?_⟩⟩, h.last, hy, fun k hk e => ?_, h.res, h.cur, h.fr, h.hb, h.nl, by simp⟩
    · have := (hf k e).2 A _ c k h2 hk; omega
    · have := (hf k e).1 k hk; omega
/-- A new row for the next switches. -/
theorem DT.fresh {w wr : World} {g b0 b : Nat} {ps ls xs : List Int} {L X : Value} (h : DT w wr g b0 b ps L ls X xs) : DT w (wr.alloc (.cells #[] 3)) g b0 b ps L ls (.slice (some ⟨wr.heap.size, 0, none⟩) 0 0) [] := by
  have h' := h.bel (below_alloc wr (.cells #[] 3))
  obtain ⟨A, c, h1, h2, h3⟩ := h.box
  refine ⟨⟨A, c, bx_alloc h1 _, own_bel h2 (below_alloc _ _), fun k hk => ⟨(h3 k hk).1, fun e => ?_⟩⟩, h'.last, own_mono (own_empty wr _) h.fr.size, fun k hk e => ?_, h'.res, h'.cur, h'.fr, h'.hb, h'.nl, by simp⟩
  · simp [Value.ownBlock] at e; have := own_lt h2 k hk; omega
  · simp [Value.ownBlock] at e; have := own_lt h.last k hk; omega
theorem DT.start {w w1 : World} {g : Nat} (hc : Cur w1 g) (hf : Fr (· = g) (((w.alloc (.cells #[.slice none 0 0, .slice none 0 0] 26)).alloc (.cells #[.int .i64 0] 3)).alloc (.cells #[.slice (some ⟨w.heap.size + 1, 0, none⟩) 1 1, .slice none 0 0] 26)) w1) (hg : g < w.heap.size) :
    DT w (w1.alloc (.cells #[.int .i64 0] 3)) g w.heap.size (w.heap.size + 1 + 1) [0] (.slice (some ⟨w1.heap.size, 0, none⟩) 1 1) [0] (.slice none 0 0) [] := by
  have hs := hf.size
  simp at hs
  have h2 := bx_fr (heap_at (w := (w.alloc (.cells #[.slice none 0 0, .slice none 0 0] 26)).alloc (.cells #[.int .i64 0] 3)) (.cells #[.slice (some ⟨w.heap.size + 1, 0, none⟩) 1 1, .slice none 0 0] 26) (k := w.heap.size + 1 + 1) (by simp)) hf (by show ¬ _ = _; omega)
  have h1 := bx_fr (bx_alloc (heap_at (w := w.alloc (.cells #[.slice none 0 0, .slice none 0 0] 26)) (.cells #[.int .i64 0] 3) (k := w.heap.size + 1) (by simp)) (.cells #[.slice (some ⟨w.heap.size + 1, 0, none⟩) 1 1, .slice none 0 0] 26)) hf (by show ¬ _ = _; omega)
  have h0 := bx_fr (bx_alloc (bx_alloc (heap_at (w := w) (.cells #[.slice none 0 0, .slice none 0 0] 26) rfl) (.cells #[.int .i64 0] 3)) (.cells #[.slice (some ⟨w.heap.size + 1, 0, none⟩) 1 1, .slice none 0 0] 26)) hf (by show ¬ _ = _; omega)
  refine ⟨⟨_, 1, bx_alloc h2 _, own_lit (cs := [.int .i64 0]) (n := 1) (bx_alloc h1 _) rfl (by decide) (by omega), fun k hk => ⟨?_, by simp [Value.ownBlock]⟩⟩, own_lit (cs := [.int .i64 0]) (n := 1) (heap_at _ rfl) rfl (by decide) (by omega), own_nil _ _ _ _, fun k hk => by simp [Value.ownBlock], bx_alloc h0 _, hc.alloc _, ?_, by omega, by simp, by simp⟩
  · simp [Value.ownBlock] at hk ⊢; omega
  · exact (((((Fr.refl _ w).alloc _).alloc _).alloc _).trans hf).alloc _
/-- The next row becomes the last one. -/
theorem DT.turn {w wr : World} {g b0 b : Nat} {ps ls xs : List Int} {L X : Value} (h : DT w wr g b0 b ps L ls X xs) : DT w wr g b0 b ps X xs (.slice none 0 0) [] := by
  obtain ⟨A, c, h1, h2, h3⟩ := h.box
  exact ⟨⟨A, c, h1, h2, fun k hk => ⟨(h3 k hk).2, by simp [Value.ownBlock]⟩⟩, h.next, own_nil _ _ _ _, fun k hk => by simp [Value.ownBlock], h.res, h.cur, h.fr, h.hb, h.nx, by simp⟩
/-- A switch more. -/
theorem DT.put {w wr w1 : World} {g b0 b : Nat} {ps ls xs : List Int} {L X : Value} (h : DT w wr g b0 b ps L ls X xs) {x : Int} {A : Option Addr} {c : Nat} {v : Value}
    (h1 : wr.heap[b]? = some (.cells #[.slice A ps.length c, .slice none 0 0] 26 (0, 0))) (h2 : wr.ownsRow w.heap.size 3 1 (.slice A ps.length c) ps.length (ints ps))
    (h3 : ∀ k, (Value.slice A ps.length c).ownBlock = some k → L.ownBlock ≠ some k ∧ X.ownBlock ≠ some k)
    (hv : w1.ownsRow w.heap.size 3 1 v (ps.length + 1) (ints ps ++ [.int .i64 x])) (hg : wr.grownBy w1 (Value.slice A ps.length c).ownBlock) (hw : v.ownBlock = (Value.slice A ps.length c).ownBlock ∨ v.ownBlock = some wr.heap.size) :
    DT w (w1.setCell ⟨b, 0, none⟩ v) g b0 b (ps ++ [x]) L ls X xs := by
  obtain ⟨A', c', rfl, _⟩ := own_rd hv
  have hh := h.hb
  have e1 : w1.heap[b]? = some (.cells #[.slice A ps.length c, .slice none 0 0] 26 (0, 0)) := bx_grown h1 hg (fun k hk => own_ne h2 h1 (by decide) k hk)
  have eL : w1.ownsRow w.heap.size 3 1 L ls.length (ints ls) := own_grown h.last hg (fun k hk e => (h3 k e).1 hk)
  have eX : w1.ownsRow w.heap.size 3 1 X xs.length (ints xs) := own_grown h.next hg (fun k hk e => (h3 k e).2 hk)
  have hl : (ps ++ [x]).length = ps.length + 1 := by simp
  have hrow : ∀ k, (Value.slice A ps.length c).ownBlock = some k → w.heap.size ≤ k := fun k hk => own_ge h2 k hk
  have hlt : ∀ Y n ys, wr.ownsRow w.heap.size 3 1 Y n ys → ∀ k, Y.ownBlock = some k → k < wr.heap.size := fun Y n ys hy k hk => own_lt hy k hk
  refine ⟨⟨A', c', ?_, ?_, ?_⟩, own_set eL (own_ne eL e1 (by decide)) _, own_set eX (own_ne eX e1 (by decide)) _, h.ap, bx_set (bx_grown h.res hg (fun k hk => own_ne h2 h.res (by decide) k hk)) (by show b0 ≠ b; omega) _, ?_, ?_, h.hb, h.nl, h.nx⟩
  · rw [hl]; exact topo_set0 e1 _
  · rw [hl, ints_snoc]; exact own_set hv (own_ne hv e1 (by decide)) _
  · intro k hk
    rw [hl] at hk
    rcases hw with hw | hw
    · rw [hw] at hk; exact h3 k hk
    · rw [hw] at hk
      injection hk with hk
      exact ⟨fun e => by have := hlt _ _ _ h.last k e; omega, fun e => by have := hlt _ _ _ h.next k e; omega⟩
  · exact (h.cur.grown hg (fun k hk => by have := hrow k hk; omega)).set (by show g < b; omega) _
  · exact (h.fr.grown hg hrow).setCell (Or.inr (by show w.heap.size ≤ b; omega)) _
/-- A switch of the next row more. -/
theorem DT.app {w wr w1 : World} {g b0 b : Nat} {ps ls xs : List Int} {L X : Value} (h : DT w wr g b0 b ps L ls X xs) {x : Int} (hx : 0 ≤ x) {v : Value}
    (hv : w1.ownsRow w.heap.size 3 1 v (xs.length + 1) (ints xs ++ [.int .i64 x])) (hg : wr.grownBy w1 X.ownBlock) (hw : v.ownBlock = X.ownBlock ∨ v.ownBlock = some wr.heap.size) :
    DT w w1 g b0 b ps L ls v (xs ++ [x]) := by
  obtain ⟨A, c, h1, h2, h3⟩ := h.box
  have hh := h.hb
  have hrow : ∀ k, X.ownBlock = some k → w.heap.size ≤ k := fun k hk => own_ge h.next k hk
  refine ⟨⟨A, c, bx_grown h1 hg (fun k hk => own_ne h.next h1 (by decide) k hk), own_grown h2 hg (fun k hk e => (h3 k hk).2 e), ?_⟩, own_grown h.last hg (fun k hk e => h.ap k hk e), ?_, ?_, bx_grown h.res hg (fun k hk => own_ne h.next h.res (by decide) k hk), h.cur.grown hg (fun k hk => by have := hrow k hk; omega), h.fr.grown hg hrow, h.hb, h.nl, ?_⟩
  · intro k hk
    refine ⟨(h3 k hk).1, ?_⟩
    rcases hw with hw | hw
    · rw [hw]; exact (h3 k hk).2
    · rw [hw]; intro e; injection e with e; have := own_lt h2 k hk; omega
  · rw [ints_snoc, List.length_append]; exact hv
  · intro k hk
    rcases hw with hw | hw
    · rw [hw]; exact h.ap k hk
    · rw [hw]; intro e; injection e with e; have := own_lt h.last k hk; omega
  · intro y hy
    rcases List.mem_append.1 hy with hy | hy
    · exact h.nx y hy
    · simp at hy; omega
/-- What the drawing of the nodes keeps. -/
structure DN (w wr : World) (g b0 b : Nat) (ps : List Int) (ns : List Q) (L : Value) (ls : List Int) : Prop where
  box : TBox wr w.heap.size b ps ns
  last : wr.ownsRow w.heap.size 3 1 L ls.length (ints ls)
  res : wr.heap[b0]? = some (.cells #[.slice none 0 0, .slice none 0 0] 26 (0, 0))
  cur : Cur wr g
  fr : Fr (· = g) w wr
  hb : b0 < b ∧ w.heap.size ≤ b0 ∧ g < w.heap.size
  nl : ∀ x ∈ ls, 0 ≤ x
theorem DT.nodes {w wr : World} {g b0 b : Nat} {ps ls xs : List Int} {L X : Value} (h : DT w wr g b0 b ps L ls X xs) : DN w wr g b0 b ps [] L ls := by
  obtain ⟨A, c, h1, h2, h3⟩ := h.box
  exact ⟨⟨A, c, none, 0, h1, h2, own_nil _ _ _ _⟩, h.last, h.res, h.cur, h.fr, h.hb, h.nl⟩
theorem DN.bel {w wr w' : World} {g b0 b : Nat} {ps ls : List Int} {ns : List Q} {L : Value} (h : DN w wr g b0 b ps ns L ls) (hb : Below wr.heap.size wr w') : DN w w' g b0 b ps ns L ls :=
  ⟨h.box.bel hb, own_bel h.last hb, bx_below h.res hb, h.cur.below hb, h.fr.of_bel hb, h.hb, h.nl⟩
theorem DN.cs {w wr w' : World} {g b0 b : Nat} {ps ls : List Int} {ns : List Q} {L : Value} (h : DN w wr g b0 b ps ns L ls) (hf : Fr (· = g) wr w') (hc : Cur w' g) : DN w w' g b0 b ps ns L ls := by
  have hh := h.hb
  exact ⟨h.box.fr hf (by omega) (fun k hk => by omega), own_fr h.last hf (fun k hk e => by have := own_ge h.last k hk; omega), bx_fr h.res hf (by omega), hc, h.fr.trans hf, h.hb, h.nl⟩
theorem DN.put {w wr w1 : World} {g b0 b : Nat} {ps ls : List Int} {ns : List Q} {L : Value} (h : DN w wr g b0 b ps ns L ls) {q : Q} {A B : Option Addr} {c d : Nat} {v : Value}
    (h1 : wr.heap[b]? = some (.cells #[.slice A ps.length c, .slice B ns.length d] 26 (0, 0))) (h2 : wr.ownsRow w.heap.size 3 1 (.slice A ps.length c) ps.length (ints ps)) (h3 : wr.ownsRow w.heap.size 103 4 (.slice B ns.length d) ns.length (flat ns))
    (hv : w1.ownsRow w.heap.size 103 4 v (ns.length + 1) (flat ns ++ [.int .i64 q.t, .int .i64 q.a, .int .i64 q.b, .int .i64 q.c])) (hg : wr.grownBy w1 (Value.slice B ns.length d).ownBlock) : DN w (w1.setCell ⟨b, 1, none⟩ v) g b0 b ps (ns ++ [q]) L ls := by
  have hh := h.hb
  have hrow : ∀ k, (Value.slice B ns.length d).ownBlock = some k → w.heap.size ≤ k := fun k hk => own_ge h3 k hk
  have e1 : w1.heap[b]? = some (.cells #[.slice A ps.length c, .slice B ns.length d] 26 (0, 0)) := bx_grown h1 hg (fun k hk => own_ne h3 h1 (by decide) k hk)
  have eL := own_grown h.last hg (fun k hk e => own_ap h3 h.last (by decide) k e hk)
  exact ⟨TBox.put1 h1 h2 h3 hv hg, own_set eL (own_ne eL e1 (by decide)) _, bx_set (bx_grown h.res hg (fun k hk => own_ne h3 h.res (by decide) k hk)) (by show b0 ≠ b; omega) _,
    (h.cur.grown hg (fun k hk => by have := hrow k hk; omega)).set (by show g < b; omega) _, (h.fr.grown hg hrow).setCell (Or.inr (by show w.heap.size ≤ b; omega)) _, h.hb, h.nl⟩
end Go.Proofs.Ytpfcegjomdppmaa
