/-
  Contracts of the profile functions that make memory.
-/
import Derived.Test.YtjnfdcojccgfoaaBx
import Derived.Test.YtjnfdcojccgfoaaPf
namespace Go.Proofs.Ytjnfdcojccgfoaa
set_option linter.unusedSimpArgs false
set_option linter.unusedVariables false
set_option linter.unnecessarySimpa false
open Go.RowKit
def newP (v : V) : List Q := if v.ok then [⟨0, v.A, v.B, v.C⟩] else []

set_option maxHeartbeats 1000000 in
theorem profNew_any_true (v : V) (w : World) (h : v.ok = true) :
    Calls Try.prog 36 #[.agg #[.int .i64 v.A, .int .i64 v.B, .int .i64 v.C]] w fun e w' => ∃ u, e = .returned (.tuple #[.agg #[u], .bool v.ok]) ∧ w'.ownsRow w.heap.size 97 4 u (newP v).length (flat (newP v)) ∧ Below w.heap.size w w' := by
  have h' : vecOkB v.A v.B v.C = true := h
  have H := Lib.hid h
  clear h
  go_enter Try.func36, Try.ntmps36
  go_wp2_with fail
  refine (vecOk_raw v.A v.B v.C _).mono ?_
  rintro e w1 ⟨rfl, hb1⟩
  have hs1 := hb1.size
  (try simp at hs1)
  have hy10 : w.heap.size < w1.heap.size := by omega
  have hk10 := fun o => hb1.cell (p := ⟨w.heap.size, o, none⟩) (by first | omega | (simp <;> omega))
  have hg10 := fun o => hb1.frozen (p := ⟨w.heap.size, o, none⟩) (by first | omega | (simp <;> omega))
  have hy11 : w.heap.size + 1 < w1.heap.size := by omega
  have hk11 := fun o => hb1.cell (p := ⟨w.heap.size + 1, o, none⟩) (by first | omega | (simp <;> omega))
  have hg11 := fun o => hb1.frozen (p := ⟨w.heap.size + 1, o, none⟩) (by first | omega | (simp <;> omega))
  rw [h']
  go_wp2
  (try go_light)
  refine bodyPost_ret (v := .tuple #[.agg #[.slice (some ⟨w1.heap.size, 0, none⟩) 1 1], .bool true]) (by simp [results, Try.results36, go_sem, *]) rfl ⟨_, by rw [H.out], ?_, (by repeat (first | exact Below.refl _ _ | assumption | (refine bstep ?_ (below_drewN _ _)) | exact bstep (by assumption) (by assumption) | (refine bstep ?_ (below_alloc _ _)) | (refine bstep ?_ (by assumption)) | (refine Below.setCell ?_ (by simp <;> omega) _) | refine Below.drew ?_))⟩
  have e : newP v = [⟨0, v.A, v.B, v.C⟩] := if_pos H.out
  rw [e]
  refine own_lit (lo := w.heap.size) (cs := [.int .i64 0, .int .i64 v.A, .int .i64 v.B, .int .i64 v.C]) ?_ (by simp) (by decide) (by omega)
  first
    | exact heap_at _ (by simp)
    | (rw [Below.heap_setCell _ _ _ _ (by simp <;> omega)]; exact heap_at _ (by simp))

set_option maxHeartbeats 1000000 in
theorem profNew_any_false (v : V) (w : World) (h : v.ok = false) :
    Calls Try.prog 36 #[.agg #[.int .i64 v.A, .int .i64 v.B, .int .i64 v.C]] w fun e w' => ∃ u, e = .returned (.tuple #[.agg #[u], .bool v.ok]) ∧ w'.ownsRow w.heap.size 97 4 u (newP v).length (flat (newP v)) ∧ Below w.heap.size w w' := by
  have h' : vecOkB v.A v.B v.C = false := h
  have H := Lib.hid h
  clear h
  go_enter Try.func36, Try.ntmps36
  go_wp2_with fail
  refine (vecOk_raw v.A v.B v.C _).mono ?_
  rintro e w1 ⟨rfl, hb1⟩
  have hs1 := hb1.size
  (try simp at hs1)
  have hy10 : w.heap.size < w1.heap.size := by omega
  have hk10 := fun o => hb1.cell (p := ⟨w.heap.size, o, none⟩) (by first | omega | (simp <;> omega))
  have hg10 := fun o => hb1.frozen (p := ⟨w.heap.size, o, none⟩) (by first | omega | (simp <;> omega))
  have hy11 : w.heap.size + 1 < w1.heap.size := by omega
  have hk11 := fun o => hb1.cell (p := ⟨w.heap.size + 1, o, none⟩) (by first | omega | (simp <;> omega))
  have hg11 := fun o => hb1.frozen (p := ⟨w.heap.size + 1, o, none⟩) (by first | omega | (simp <;> omega))
  rw [h']
  go_wp2
  (try go_light)
  refine bodyPost_ret (v := .tuple #[.agg #[.slice none 0 0], .bool false]) (by simp [results, Try.results36, go_sem, *]) rfl ⟨_, by rw [H.out], ?_, (by repeat (first | exact Below.refl _ _ | assumption | (refine bstep ?_ (below_drewN _ _)) | exact bstep (by assumption) (by assumption) | (refine bstep ?_ (below_alloc _ _)) | (refine bstep ?_ (by assumption)) | (refine Below.setCell ?_ (by simp <;> omega) _) | refine Below.drew ?_))⟩
  have e : newP v = [] := if_neg (by rw [H.out]; decide)
  rw [e]
  exact own_nil _ _ _ _
theorem profNew_any (v : V) (w : World) :
    Calls Try.prog 36 #[.agg #[.int .i64 v.A, .int .i64 v.B, .int .i64 v.C]] w fun e w' => ∃ u, e = .returned (.tuple #[.agg #[u], .bool v.ok]) ∧ w'.ownsRow w.heap.size 97 4 u (newP v).length (flat (newP v)) ∧ Below w.heap.size w w' := by
  cases h : v.ok
  · rw [← h]; exact profNew_any_false v w h
  · rw [← h]; exact profNew_any_true v w h

set_option maxHeartbeats 1000000 in
theorem sprofNew_any_true (v : V) (w : World) (h : v.ok = true) :
    Calls Try.prog 34 #[.agg #[.int .i64 v.A, .int .i64 v.B, .int .i64 v.C]] w fun e w' => ∃ u, e = .returned (.tuple #[.agg #[u], .bool v.ok]) ∧ w'.ownsRow w.heap.size 97 4 u (newP v).length (flat (newP v)) ∧ Below w.heap.size w w' := by
  have h' : vecOkB v.A v.B v.C = true := h
  have H := Lib.hid h
  clear h
  go_enter Try.func34, Try.ntmps34
  go_wp2_with fail
  refine (svecOk_raw v.A v.B v.C _).mono ?_
  rintro e w1 ⟨rfl, hb1⟩
  have hs1 := hb1.size
  (try simp at hs1)
  have hy10 : w.heap.size < w1.heap.size := by omega
  have hk10 := fun o => hb1.cell (p := ⟨w.heap.size, o, none⟩) (by first | omega | (simp <;> omega))
  have hg10 := fun o => hb1.frozen (p := ⟨w.heap.size, o, none⟩) (by first | omega | (simp <;> omega))
  have hy11 : w.heap.size + 1 < w1.heap.size := by omega
  have hk11 := fun o => hb1.cell (p := ⟨w.heap.size + 1, o, none⟩) (by first | omega | (simp <;> omega))
  have hg11 := fun o => hb1.frozen (p := ⟨w.heap.size + 1, o, none⟩) (by first | omega | (simp <;> omega))
  rw [h']
  go_wp2
  (try go_light)
  refine bodyPost_ret (v := .tuple #[.agg #[.slice (some ⟨w1.heap.size, 0, none⟩) 1 1], .bool true]) (by simp [results, Try.results34, go_sem, *]) rfl ⟨_, by rw [H.out], ?_, (by repeat (first | exact Below.refl _ _ | assumption | (refine bstep ?_ (below_drewN _ _)) | exact bstep (by assumption) (by assumption) | (refine bstep ?_ (below_alloc _ _)) | (refine bstep ?_ (by assumption)) | (refine Below.setCell ?_ (by simp <;> omega) _) | refine Below.drew ?_))⟩
  have e : newP v = [⟨0, v.A, v.B, v.C⟩] := if_pos H.out
  rw [e]
  refine own_lit (lo := w.heap.size) (cs := [.int .i64 0, .int .i64 v.A, .int .i64 v.B, .int .i64 v.C]) ?_ (by simp) (by decide) (by omega)
  first
    | exact heap_at _ (by simp)
    | (rw [Below.heap_setCell _ _ _ _ (by simp <;> omega)]; exact heap_at _ (by simp))

set_option maxHeartbeats 1000000 in
theorem sprofNew_any_false (v : V) (w : World) (h : v.ok = false) :
    Calls Try.prog 34 #[.agg #[.int .i64 v.A, .int .i64 v.B, .int .i64 v.C]] w fun e w' => ∃ u, e = .returned (.tuple #[.agg #[u], .bool v.ok]) ∧ w'.ownsRow w.heap.size 97 4 u (newP v).length (flat (newP v)) ∧ Below w.heap.size w w' := by
  have h' : vecOkB v.A v.B v.C = false := h
  have H := Lib.hid h
  clear h
  go_enter Try.func34, Try.ntmps34
  go_wp2_with fail
  refine (svecOk_raw v.A v.B v.C _).mono ?_
  rintro e w1 ⟨rfl, hb1⟩
  have hs1 := hb1.size
  (try simp at hs1)
  have hy10 : w.heap.size < w1.heap.size := by omega
  have hk10 := fun o => hb1.cell (p := ⟨w.heap.size, o, none⟩) (by first | omega | (simp <;> omega))
  have hg10 := fun o => hb1.frozen (p := ⟨w.heap.size, o, none⟩) (by first | omega | (simp <;> omega))
  have hy11 : w.heap.size + 1 < w1.heap.size := by omega
  have hk11 := fun o => hb1.cell (p := ⟨w.heap.size + 1, o, none⟩) (by first | omega | (simp <;> omega))
  have hg11 := fun o => hb1.frozen (p := ⟨w.heap.size + 1, o, none⟩) (by first | omega | (simp <;> omega))
  rw [h']
  go_wp2
  (try go_light)
  refine bodyPost_ret (v := .tuple #[.agg #[.slice none 0 0], .bool false]) (by simp [results, Try.results34, go_sem, *]) rfl ⟨_, by rw [H.out], ?_, (by repeat (first | exact Below.refl _ _ | assumption | (refine bstep ?_ (below_drewN _ _)) | exact bstep (by assumption) (by assumption) | (refine bstep ?_ (below_alloc _ _)) | (refine bstep ?_ (by assumption)) | (refine Below.setCell ?_ (by simp <;> omega) _) | refine Below.drew ?_))⟩
  have e : newP v = [] := if_neg (by rw [H.out]; decide)
  rw [e]
  exact own_nil _ _ _ _
theorem sprofNew_any (v : V) (w : World) :
    Calls Try.prog 34 #[.agg #[.int .i64 v.A, .int .i64 v.B, .int .i64 v.C]] w fun e w' => ∃ u, e = .returned (.tuple #[.agg #[u], .bool v.ok]) ∧ w'.ownsRow w.heap.size 97 4 u (newP v).length (flat (newP v)) ∧ Below w.heap.size w w' := by
  cases h : v.ok
  · rw [← h]; exact sprofNew_any_false v w h
  · rw [← h]; exact sprofNew_any_true v w h
end Go.Proofs.Ytjnfdcojccgfoaa
