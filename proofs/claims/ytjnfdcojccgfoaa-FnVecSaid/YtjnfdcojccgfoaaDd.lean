/-
  What is drawn for vectors.
-/
import Derived.Test.YtjnfdcojccgfoaaDa
import Derived.Lib.Hide
namespace Go.Proofs.Ytjnfdcojccgfoaa
set_option linter.unusedSimpArgs false
set_option linter.unusedVariables false
set_option linter.unnecessarySimpa false
open Go.RowKit

set_option maxHeartbeats 1000000 in
theorem cur_raw (g : Nat) (w : World) (h : Cur w g) :
    Calls Try.prog 149 #[.pointer (some ⟨g, 0, none⟩)] w fun e w' => ∃ x : Int, e = .returned (.int .i64 x) ∧ in64 x ∧ Cur w' g ∧ Fr (· = g) w w' := by
  have C := Lib.hid h
  clear h
  go_enter Try.func149, Try.ntmps149
  go_wp2_with fail
  refine (cur_below g 9 _ C.out (by omega) (by omega)).mono ?_
  rintro e w1 ⟨x1, rfl, a1, q1, cu1, fr1⟩
  have hs1 := fr1.size
  (try simp at hs1)
  have C1 := Lib.hid cu1
  have hgl1 := cu1.lt
  clear cu1
  by_cases h4 : x1 < 4
  · skip
    go_wp2_with fail
    refine (cur_below g 24 _ C1.out (by omega) (by omega)).mono ?_
    rintro e w2 ⟨x2, rfl, a2, q2, cu2, fr2⟩
    have hs2 := fr2.size
    (try simp at hs2)
    have C2 := Lib.hid cu2
    have hgl2 := cu2.lt
    clear cu2
    go_wp2
    go_ret
    exact ⟨_, rfl, ⟨by omega, by omega⟩, C2.out, fr1.trans fr2⟩
  · by_cases e4 : x1 = 4
    · subst e4
      go_wp2_with fail
      refine (cur_below g 3 _ C1.out (by omega) (by omega)).mono ?_
      rintro e w2 ⟨x2, rfl, a2, q2, cu2, fr2⟩
      have hs2 := fr2.size
      (try simp at hs2)
      have C2 := Lib.hid cu2
      have hgl2 := cu2.lt
      clear cu2
      go_wp2
      go_ret
      exact ⟨_, rfl, ⟨by omega, by omega⟩, C2.out, fr1.trans fr2⟩
    · by_cases e5 : x1 = 5
      · subst e5
        go_wp2_with fail
        refine (cur_below g 3 _ C1.out (by omega) (by omega)).mono ?_
        rintro e w2 ⟨x2, rfl, a2, q2, cu2, fr2⟩
        have hs2 := fr2.size
        (try simp at hs2)
        have C2 := Lib.hid cu2
        have hgl2 := cu2.lt
        clear cu2
        go_wp2
        go_ret
        exact ⟨_, rfl, ⟨by omega, by omega⟩, C2.out, fr1.trans fr2⟩
      · by_cases e6 : x1 = 6
        · subst e6
          go_wp2_with fail
          refine (cur_below g 2 _ C1.out (by omega) (by omega)).mono ?_
          rintro e w2 ⟨x2, rfl, a2, q2, cu2, fr2⟩
          have hs2 := fr2.size
          (try simp at hs2)
          have C2 := Lib.hid cu2
          have hgl2 := cu2.lt
          clear cu2
          go_wp2
          go_ret
          exact ⟨_, rfl, ⟨by omega, by omega⟩, C2.out, fr1.trans fr2⟩
        · by_cases e7 : x1 = 7
          · subst e7
            go_wp2_with fail
            refine (cur_below g 2 _ C1.out (by omega) (by omega)).mono ?_
            rintro e w2 ⟨x2, rfl, a2, q2, cu2, fr2⟩
            have hs2 := fr2.size
            (try simp at hs2)
            have C2 := Lib.hid cu2
            have hgl2 := cu2.lt
            clear cu2
            go_wp2
            go_ret
            exact ⟨_, rfl, ⟨by omega, by omega⟩, C2.out, fr1.trans fr2⟩
          · skip
            go_wp2_with fail
            refine (cur_below g 2000000 _ C1.out (by omega) (by omega)).mono ?_
            rintro e w2 ⟨x2, rfl, a2, q2, cu2, fr2⟩
            have hs2 := fr2.size
            (try simp at hs2)
            have C2 := Lib.hid cu2
            have hgl2 := cu2.lt
            clear cu2
            go_wp2
            go_ret
            exact ⟨_, rfl, ⟨by omega, by omega⟩, C2.out, fr1.trans fr2⟩

theorem vok_mk {a b c : Int} (a0 : 0 ≤ a) (a1 : a ≤ 1000000) (b0 : 0 ≤ b) (b1 : b ≤ 1000000) (c0 : 0 ≤ c) (c1 : c ≤ 1000000) : vecOkB a b c = true := by
  simp [vecOkB, resB, inB, *]
set_option maxHeartbeats 2000000 in
theorem cur_vec (g : Nat) (w : World) (h : Cur w g) :
    Calls Try.prog 165 #[.pointer (some ⟨g, 0, none⟩)] w fun e w' => ∃ x y z : Int, e = .returned (.agg #[.int .i64 x, .int .i64 y, .int .i64 z]) ∧ vecOkB x y z = true ∧ Cur w' g ∧ Fr (· = g) w w' := by
  have C := Lib.hid h
  have hgw := h.lt
  clear h
  go_enter Try.func165, Try.ntmps165
  go_wp2_with fail
  refine (cur_below g 9 _ (by repeat (first | exact C.out | refine Cur.alloc ?_ _ | refine Cur.drewN ?_ _ | refine Cur.drew ?_ | refine Cur.set ?_ (by simp <;> omega) _)) (by omega) (by omega)).mono ?_
  rintro e w1 ⟨x1, rfl, a1, q1, cu1, fr1⟩
  have hs1 := fr1.size
  (try simp at hs1)
  have hy10 : w.heap.size < w1.heap.size := by omega
  have hk10 := fun o => fr1.cell (b := w.heap.size) (by first | omega | (simp <;> omega)) (by omega) o
  have hg10 := fun o => fr1.frozen (b := w.heap.size) (by first | omega | (simp <;> omega)) (by omega) o
  have C1 := Lib.hid cu1
  have hgl1 := cu1.lt
  clear cu1
  go_wp2_with fail
  refine (cur_below g 17 _ (by repeat (first | exact C1.out | refine Cur.alloc ?_ _ | refine Cur.drewN ?_ _ | refine Cur.drew ?_ | refine Cur.set ?_ (by simp <;> omega) _)) (by omega) (by omega)).mono ?_
  rintro e w2 ⟨x2, rfl, a2, q2, cu2, fr2⟩
  have hs2 := fr2.size
  (try simp at hs2)
  have hy20 : w.heap.size < w2.heap.size := by omega
  have hk20 := fun o => fr2.cell (b := w.heap.size) (by first | omega | (simp <;> omega)) (by omega) o
  have hg20 := fun o => fr2.frozen (b := w.heap.size) (by first | omega | (simp <;> omega)) (by omega) o
  have C2 := Lib.hid cu2
  have hgl2 := cu2.lt
  clear cu2
  go_wp2_with fail
  refine (cur_below g 3 _ (by repeat (first | exact C2.out | refine Cur.alloc ?_ _ | refine Cur.drewN ?_ _ | refine Cur.drew ?_ | refine Cur.set ?_ (by simp <;> omega) _)) (by omega) (by omega)).mono ?_
  rintro e w3 ⟨x3, rfl, a3, q3, cu3, fr3⟩
  have hs3 := fr3.size
  (try simp at hs3)
  have hy30 : w.heap.size < w3.heap.size := by omega
  have hk30 := fun o => fr3.cell (b := w.heap.size) (by first | omega | (simp <;> omega)) (by omega) o
  have hg30 := fun o => fr3.frozen (b := w.heap.size) (by first | omega | (simp <;> omega)) (by omega) o
  have C3 := Lib.hid cu3
  have hgl3 := cu3.lt
  clear cu3
  go_wp2_with fail
  refine (cur_below g 14 _ (by repeat (first | exact C3.out | refine Cur.alloc ?_ _ | refine Cur.drewN ?_ _ | refine Cur.drew ?_ | refine Cur.set ?_ (by simp <;> omega) _)) (by omega) (by omega)).mono ?_
  rintro e w4 ⟨x4, rfl, a4, q4, cu4, fr4⟩
  have hs4 := fr4.size
  (try simp at hs4)
  have hy40 : w.heap.size < w4.heap.size := by omega
  have hk40 := fun o => fr4.cell (b := w.heap.size) (by first | omega | (simp <;> omega)) (by omega) o
  have hg40 := fun o => fr4.frozen (b := w.heap.size) (by first | omega | (simp <;> omega)) (by omega) o
  have hy41 : w3.heap.size < w4.heap.size := by omega
  have hk41 := fun o => fr4.cell (b := w3.heap.size) (by first | omega | (simp <;> omega)) (by omega) o
  have hg41 := fun o => fr4.frozen (b := w3.heap.size) (by first | omega | (simp <;> omega)) (by omega) o
  have C4 := Lib.hid cu4
  have hgl4 := cu4.lt
  clear cu4
  by_cases h0 : x4 = 0
  · subst h0
    go_wp2_with fail
    refine (cur_below g 2 _ (by repeat (first | exact C4.out | refine Cur.alloc ?_ _ | refine Cur.drewN ?_ _ | refine Cur.drew ?_ | refine Cur.set ?_ (by simp <;> omega) _)) (by omega) (by omega)).mono ?_
    rintro e w5 ⟨x5, rfl, a5, q5, cu5, fr5⟩
    have hs5 := fr5.size
    (try simp at hs5)
    have hy50 : w.heap.size < w5.heap.size := by omega
    have hk50 := fun o => fr5.cell (b := w.heap.size) (by first | omega | (simp <;> omega)) (by omega) o
    have hg50 := fun o => fr5.frozen (b := w.heap.size) (by first | omega | (simp <;> omega)) (by omega) o
    have hy51 : w3.heap.size < w5.heap.size := by omega
    have hk51 := fun o => fr5.cell (b := w3.heap.size) (by first | omega | (simp <;> omega)) (by omega) o
    have hg51 := fun o => fr5.frozen (b := w3.heap.size) (by first | omega | (simp <;> omega)) (by omega) o
    have C5 := Lib.hid cu5
    have hgl5 := cu5.lt
    clear cu5
    go_wp2
    (try go_light)
    refine bodyPost_ret (v := .agg #[.int .i64 (x1), .int .i64 (1000000 - x5), .int .i64 (x3)]) (by simp [results, Try.results165, go_sem, *]) rfl ⟨_, _, _, rfl, vok_mk (by omega) (by omega) (by omega) (by omega) (by omega) (by omega), (by repeat (first | exact C5.out | refine Cur.alloc ?_ _ | refine Cur.drewN ?_ _ | refine Cur.drew ?_ | refine Cur.set ?_ (by simp <;> omega) _)), (by repeat (first | exact Fr.refl _ _ | assumption | refine Fr.trans ?_ (by assumption) | refine Fr.alloc ?_ _ | refine Fr.setCell ?_ (Or.inr (by simp <;> omega)) _ | refine Fr.drewN ?_ _ | refine Fr.drew ?_))⟩
  · skip
    go_wp2
    (try go_light)
    refine bodyPost_ret (v := .agg #[.int .i64 (x1), .int .i64 (x2), .int .i64 (x3)]) (by simp [results, Try.results165, go_sem, *]) rfl ⟨_, _, _, rfl, vok_mk (by omega) (by omega) (by omega) (by omega) (by omega) (by omega), (by repeat (first | exact C4.out | refine Cur.alloc ?_ _ | refine Cur.drewN ?_ _ | refine Cur.drew ?_ | refine Cur.set ?_ (by simp <;> omega) _)), (by repeat (first | exact Fr.refl _ _ | assumption | refine Fr.trans ?_ (by assumption) | refine Fr.alloc ?_ _ | refine Fr.setCell ?_ (Or.inr (by simp <;> omega)) _ | refine Fr.drewN ?_ _ | refine Fr.drew ?_))⟩

theorem vecOk_le9 {a b c : Int} (h : vecOkB a b c = true) : (0 ≤ a ∧ a ≤ 1000000) ∧ (0 ≤ b ∧ b ≤ 1000000) ∧ (0 ≤ c ∧ c ≤ 1000000) := by
  simp [vecOkB, resB, inB] at h; omega

set_option maxHeartbeats 2000000 in
theorem cur_any (g : Nat) (w : World) (h : Cur w g) :
    Calls Try.prog 119 #[.pointer (some ⟨g, 0, none⟩)] w fun e w' => ∃ x y z : Int, e = .returned (.agg #[.int .i64 x, .int .i64 y, .int .i64 z]) ∧ in64 x ∧ in64 y ∧ in64 z ∧ Cur w' g ∧ Fr (· = g) w w' := by
  have C := Lib.hid h
  have hgw := h.lt
  clear h
  go_enter Try.func119, Try.ntmps119
  go_wp2_with fail
  refine (cur_vec g _ (by repeat (first | exact C.out | refine Cur.alloc ?_ _ | refine Cur.drewN ?_ _ | refine Cur.drew ?_ | refine Cur.set ?_ (by simp <;> omega) _))).mono ?_
  rintro e w1 ⟨x, y, z, rfl, hv, cu1, fr1⟩
  have hs1 := fr1.size
  (try simp at hs1)
  have hy10 : w.heap.size < w1.heap.size := by omega
  have hk10 := fun o => fr1.cell (b := w.heap.size) (by first | omega | (simp <;> omega)) (by omega) o
  have hg10 := fun o => fr1.frozen (b := w.heap.size) (by first | omega | (simp <;> omega)) (by omega) o
  have C1 := Lib.hid cu1
  have hgl1 := cu1.lt
  clear cu1
  obtain ⟨⟨x0, x1⟩, ⟨y0, y1⟩, ⟨z0, z1⟩⟩ := vecOk_le9 hv
  have I1 : in64 x := ⟨by omega, by omega⟩
  have I2 : in64 y := ⟨by omega, by omega⟩
  have I3 : in64 z := ⟨by omega, by omega⟩
  clear hv x0 x1 y0 y1 z0 z1
  go_wp2_with fail
  refine (cur_below g 12 _ (by repeat (first | exact C1.out | refine Cur.alloc ?_ _ | refine Cur.drewN ?_ _ | refine Cur.drew ?_ | refine Cur.set ?_ (by simp <;> omega) _)) (by omega) (by omega)).mono ?_
  rintro e w2 ⟨k, rfl, ka, kb, cu2, fr2⟩
  have hs2 := fr2.size
  (try simp at hs2)
  have hy20 : w.heap.size < w2.heap.size := by omega
  have hk20 := fun o => fr2.cell (b := w.heap.size) (by first | omega | (simp <;> omega)) (by omega) o
  have hg20 := fun o => fr2.frozen (b := w.heap.size) (by first | omega | (simp <;> omega)) (by omega) o
  have hy21 : w1.heap.size < w2.heap.size := by omega
  have hk21 := fun o => fr2.cell (b := w1.heap.size) (by first | omega | (simp <;> omega)) (by omega) o
  have hg21 := fun o => fr2.frozen (b := w1.heap.size) (by first | omega | (simp <;> omega)) (by omega) o
  have C2 := Lib.hid cu2
  have hgl2 := cu2.lt
  clear cu2
  by_cases e0 : k = 0
  · subst e0
    go_wp2_with fail
    refine (cur_raw g _ (by repeat (first | exact C2.out | refine Cur.alloc ?_ _ | refine Cur.drewN ?_ _ | refine Cur.drew ?_ | refine Cur.set ?_ (by simp <;> omega) _))).mono ?_
    rintro e w3 ⟨r, rfl, hr, cu3, fr3⟩
    have hs3 := fr3.size
    (try simp at hs3)
    have hy30 : w.heap.size < w3.heap.size := by omega
    have hk30 := fun o => fr3.cell (b := w.heap.size) (by first | omega | (simp <;> omega)) (by omega) o
    have hg30 := fun o => fr3.frozen (b := w.heap.size) (by first | omega | (simp <;> omega)) (by omega) o
    have hy31 : w1.heap.size < w3.heap.size := by omega
    have hk31 := fun o => fr3.cell (b := w1.heap.size) (by first | omega | (simp <;> omega)) (by omega) o
    have hg31 := fun o => fr3.frozen (b := w1.heap.size) (by first | omega | (simp <;> omega)) (by omega) o
    have C3 := Lib.hid cu3
    have hgl3 := cu3.lt
    clear cu3
    go_wp2
    (try go_light)
    exact bodyPost_ret (v := .agg #[.int .i64 r, .int .i64 y, .int .i64 z]) (by simp [results, Try.results119, go_sem, *]) rfl ⟨_, _, _, rfl, hr, I2, I3, (by repeat (first | exact C3.out | refine Cur.alloc ?_ _ | refine Cur.drewN ?_ _ | refine Cur.drew ?_ | refine Cur.set ?_ (by simp <;> omega) _)), (by repeat (first | exact Fr.refl _ _ | assumption | refine Fr.trans ?_ (by assumption) | refine Fr.alloc ?_ _ | refine Fr.setCell ?_ (Or.inr (by simp <;> omega)) _ | refine Fr.drewN ?_ _ | refine Fr.drew ?_))⟩
  by_cases e1 : k = 1
  · subst e1
    go_wp2_with fail
    refine (cur_raw g _ (by repeat (first | exact C2.out | refine Cur.alloc ?_ _ | refine Cur.drewN ?_ _ | refine Cur.drew ?_ | refine Cur.set ?_ (by simp <;> omega) _))).mono ?_
    rintro e w3 ⟨r, rfl, hr, cu3, fr3⟩
    have hs3 := fr3.size
    (try simp at hs3)
    have hy30 : w.heap.size < w3.heap.size := by omega
    have hk30 := fun o => fr3.cell (b := w.heap.size) (by first | omega | (simp <;> omega)) (by omega) o
    have hg30 := fun o => fr3.frozen (b := w.heap.size) (by first | omega | (simp <;> omega)) (by omega) o
    have hy31 : w1.heap.size < w3.heap.size := by omega
    have hk31 := fun o => fr3.cell (b := w1.heap.size) (by first | omega | (simp <;> omega)) (by omega) o
    have hg31 := fun o => fr3.frozen (b := w1.heap.size) (by first | omega | (simp <;> omega)) (by omega) o
    have C3 := Lib.hid cu3
    have hgl3 := cu3.lt
    clear cu3
    go_wp2
    (try go_light)
    exact bodyPost_ret (v := .agg #[.int .i64 x, .int .i64 r, .int .i64 z]) (by simp [results, Try.results119, go_sem, *]) rfl ⟨_, _, _, rfl, I1, hr, I3, (by repeat (first | exact C3.out | refine Cur.alloc ?_ _ | refine Cur.drewN ?_ _ | refine Cur.drew ?_ | refine Cur.set ?_ (by simp <;> omega) _)), (by repeat (first | exact Fr.refl _ _ | assumption | refine Fr.trans ?_ (by assumption) | refine Fr.alloc ?_ _ | refine Fr.setCell ?_ (Or.inr (by simp <;> omega)) _ | refine Fr.drewN ?_ _ | refine Fr.drew ?_))⟩
  by_cases e2 : k = 2
  · subst e2
    go_wp2_with fail
    refine (cur_raw g _ (by repeat (first | exact C2.out | refine Cur.alloc ?_ _ | refine Cur.drewN ?_ _ | refine Cur.drew ?_ | refine Cur.set ?_ (by simp <;> omega) _))).mono ?_
    rintro e w3 ⟨r, rfl, hr, cu3, fr3⟩
    have hs3 := fr3.size
    (try simp at hs3)
    have hy30 : w.heap.size < w3.heap.size := by omega
    have hk30 := fun o => fr3.cell (b := w.heap.size) (by first | omega | (simp <;> omega)) (by omega) o
    have hg30 := fun o => fr3.frozen (b := w.heap.size) (by first | omega | (simp <;> omega)) (by omega) o
    have hy31 : w1.heap.size < w3.heap.size := by omega
    have hk31 := fun o => fr3.cell (b := w1.heap.size) (by first | omega | (simp <;> omega)) (by omega) o
    have hg31 := fun o => fr3.frozen (b := w1.heap.size) (by first | omega | (simp <;> omega)) (by omega) o
    have C3 := Lib.hid cu3
    have hgl3 := cu3.lt
    clear cu3
    go_wp2
    (try go_light)
    exact bodyPost_ret (v := .agg #[.int .i64 x, .int .i64 y, .int .i64 r]) (by simp [results, Try.results119, go_sem, *]) rfl ⟨_, _, _, rfl, I1, I2, hr, (by repeat (first | exact C3.out | refine Cur.alloc ?_ _ | refine Cur.drewN ?_ _ | refine Cur.drew ?_ | refine Cur.set ?_ (by simp <;> omega) _)), (by repeat (first | exact Fr.refl _ _ | assumption | refine Fr.trans ?_ (by assumption) | refine Fr.alloc ?_ _ | refine Fr.setCell ?_ (Or.inr (by simp <;> omega)) _ | refine Fr.drewN ?_ _ | refine Fr.drew ?_))⟩
  go_wp2
  (try go_light)
  exact bodyPost_ret (v := .agg #[.int .i64 x, .int .i64 y, .int .i64 z]) (by simp [results, Try.results119, go_sem, *]) rfl ⟨_, _, _, rfl, I1, I2, I3, (by repeat (first | exact C2.out | refine Cur.alloc ?_ _ | refine Cur.drewN ?_ _ | refine Cur.drew ?_ | refine Cur.set ?_ (by simp <;> omega) _)), (by repeat (first | exact Fr.refl _ _ | assumption | refine Fr.trans ?_ (by assumption) | refine Fr.alloc ?_ _ | refine Fr.setCell ?_ (Or.inr (by simp <;> omega)) _ | refine Fr.drewN ?_ _ | refine Fr.drew ?_))⟩
end Go.Proofs.Ytjnfdcojccgfoaa
