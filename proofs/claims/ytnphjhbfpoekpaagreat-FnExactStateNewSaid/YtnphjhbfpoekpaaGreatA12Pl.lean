import Derived.Test.YtnphjhbfpoekpaaGreatA4Pl
import Derived.Test.YtnphjhbfpoekpaaGreatA16Pl
import Derived.Test.YtnphjhbfpoekpaaGreatA7Pl
import Derived.Test.YtnphjhbfpoekpaaGreatA5Pl
namespace Go.Proofs.YtnphjhbfpoekpaaGreat
set_option linter.unusedSimpArgs false
set_option linter.unusedVariables false
set_option linter.unnecessarySimpa false
open Go.RowKit
theorem isSpan_any (lo hi : Int) (w : World) :
  Calls Tryz.prog 178 #[.int .i64 lo, .int .i64 hi] w fun e w' => e = .returned (.bool (spanB lo hi)) ∧ w = w' := by
 cases h1 : timeB lo
 ·have h : spanB lo hi = false := by unfold spanB; rw [h1]; rfl
  have H := Lib.hid h
  clear h
  go_enter Tryz.func178, Tryz.ntmps178
  go_wp2_with (go_at_call 53; refine (isTime_any _ _).mono ?_; rintro e w' ⟨rfl, rfl⟩; rw [h1])
  go_ret
  exact ⟨zAj H.out.symm, rfl⟩
 ·cases h2 : timeB hi
  ·have h : spanB lo hi = false := by unfold spanB; rw [h1, h2]; rfl
   have H := Lib.hid h
   clear h
   go_enter Tryz.func178, Tryz.ntmps178
   go_wp2_with (go_at_call 53; refine (isTime_any _ _).mono ?_; rintro e w' ⟨rfl, rfl⟩; first | rw [h1] | rw [h2])
   go_ret
   exact ⟨zAj H.out.symm, rfl⟩
  ·have h : spanB lo hi = decide (lo < hi) := by unfold spanB; rw [h1, h2]; rfl
   have H := Lib.hid h
   clear h
   go_enter Tryz.func178, Tryz.ntmps178
   go_wp2_with (go_at_call 53; refine (isTime_any _ _).mono ?_; rintro e w' ⟨rfl, rfl⟩; first | rw [h1] | rw [h2])
   go_ret
   exact ⟨zAj H.out.symm, rfl⟩
def minB (ps : List Q) (lo hi : Int) : Bool := zAx ps && spanB lo hi
def minVv (ps : List Q) (lo hi : Int) : V := if minB ps lo hi then leastV lo hi ps else V.zero
set_option maxHeartbeats 4000000 in
theorem sprofMin_no (A : Option Addr) (n c : Nat) (ps : List Q) (lo hi : Int) (w : World) (hn : n ≤ 1048576) (hr : Rd w A n 4 (flat ps)) (hl : ∀ g, A = some ⟨g, 0, none⟩ → g < w.heap.size) (h : minB ps lo hi = false) :
  Calls Tryz.prog 203 #[.agg #[.slice A n c], .int .i64 lo, .int .i64 hi] w fun e w' => e = .returned (.tuple #[.agg #[.int .i64 (minVv ps lo hi).A, .int .i64 (minVv ps lo hi).B, .int .i64 (minVv ps lo hi).C], .bool (minB ps lo hi)]) ∧ Below w.heap.size w w' := by
 have hB := h
 have hF : minVv ps lo hi = V.zero := by unfold minVv; rw [hB]; rfl
 unfold minB spanB at h
 have hpl : ps.length = n := by have := hr.1; rw [flat_len] at this; omega
 have hm : n ≤ 9223372036854775807 := by omega
 have HN := Lib.hid hn
 have HR := Lib.hid hr
 have HL := Lib.hid hl
 have HP := Lib.hid hpl
 clear hn hr hl hpl
 have HF := Lib.hid hF
 have HB0 := Lib.hid hB
 clear hF hB
 cases hp : zAx ps
 ·clear h
  go_enter Tryz.func203, Tryz.ntmps203
  go_wp2_with (first | (go_at_call 145; refine (sprofOk_any _ _ _ _ _ HN.out (HR.out.below HL.out zBe) (zAi HL.out zBe)).mono ?_; rintro e w1 ⟨rfl, hb1⟩; rw [hp]; have hs1 := hb1.size; (try simp at hs1); have hk10 := fun o => hb1.cell (p := ⟨w.heap.size, o, none⟩) (by simp <;> omega); have hg10 := fun o => hb1.frozen (p := ⟨w.heap.size, o, none⟩) (by simp <;> omega); have hk11 := fun o => hb1.cell (p := ⟨w.heap.size + 1, o, none⟩) (by simp <;> omega); have hg11 := fun o => hb1.frozen (p := ⟨w.heap.size + 1, o, none⟩) (by simp <;> omega)) | (go_at_call 60; refine (sTime_any _ _).mono ?_; rintro e w' ⟨rfl, rfl⟩))
  (try go_light)
  refine bodyPost_ret (v := .tuple #[.agg #[.int .i64 0, .int .i64 0, .int .i64 0], .bool false]) (by simp [results, Tryz.results203, go_sem, *]) rfl ⟨by rw [HF.out, HB0.out]; rfl, zBe⟩
 ·cases h1 : timeB lo
  ·clear h
   go_enter Tryz.func203, Tryz.ntmps203
   go_wp2_with (first | (go_at_call 145; refine (sprofOk_any _ _ _ _ _ HN.out (HR.out.below HL.out zBe) (zAi HL.out zBe)).mono ?_; rintro e w1 ⟨rfl, hb1⟩; rw [hp]; have hs1 := hb1.size; (try simp at hs1); have hk10 := fun o => hb1.cell (p := ⟨w.heap.size, o, none⟩) (by simp <;> omega); have hg10 := fun o => hb1.frozen (p := ⟨w.heap.size, o, none⟩) (by simp <;> omega); have hk11 := fun o => hb1.cell (p := ⟨w.heap.size + 1, o, none⟩) (by simp <;> omega); have hg11 := fun o => hb1.frozen (p := ⟨w.heap.size + 1, o, none⟩) (by simp <;> omega)) | (go_at_call 60; refine (sTime_any _ _).mono ?_; rintro e w' ⟨rfl, rfl⟩; rw [h1]))
   (try go_light)
   refine bodyPost_ret (v := .tuple #[.agg #[.int .i64 0, .int .i64 0, .int .i64 0], .bool false]) (by simp [results, Tryz.results203, go_sem, *]) rfl ⟨by rw [HF.out, HB0.out]; rfl, zBe⟩
  ·cases h2 : timeB hi
   ·clear h
    go_enter Tryz.func203, Tryz.ntmps203
    go_wp2_with (first | (go_at_call 145; refine (sprofOk_any _ _ _ _ _ HN.out (HR.out.below HL.out zBe) (zAi HL.out zBe)).mono ?_; rintro e w1 ⟨rfl, hb1⟩; rw [hp]; have hs1 := hb1.size; (try simp at hs1); have hk10 := fun o => hb1.cell (p := ⟨w.heap.size, o, none⟩) (by simp <;> omega); have hg10 := fun o => hb1.frozen (p := ⟨w.heap.size, o, none⟩) (by simp <;> omega); have hk11 := fun o => hb1.cell (p := ⟨w.heap.size + 1, o, none⟩) (by simp <;> omega); have hg11 := fun o => hb1.frozen (p := ⟨w.heap.size + 1, o, none⟩) (by simp <;> omega)) | (go_at_call 60; refine (sTime_any _ _).mono ?_; rintro e w' ⟨rfl, rfl⟩; first | rw [h1] | rw [h2]))
    (try go_light)
    refine bodyPost_ret (v := .tuple #[.agg #[.int .i64 0, .int .i64 0, .int .i64 0], .bool false]) (by simp [results, Tryz.results203, go_sem, *]) rfl ⟨by rw [HF.out, HB0.out]; rfl, zBe⟩
   ·have hs : hi ≤ lo := by rw [hp, h1, h2] at h; simpa using h
    clear h
    go_enter Tryz.func203, Tryz.ntmps203
    go_wp2_with (first | (go_at_call 145; refine (sprofOk_any _ _ _ _ _ HN.out (HR.out.below HL.out zBe) (zAi HL.out zBe)).mono ?_; rintro e w1 ⟨rfl, hb1⟩; rw [hp]; have hs1 := hb1.size; (try simp at hs1); have hk10 := fun o => hb1.cell (p := ⟨w.heap.size, o, none⟩) (by simp <;> omega); have hg10 := fun o => hb1.frozen (p := ⟨w.heap.size, o, none⟩) (by simp <;> omega); have hk11 := fun o => hb1.cell (p := ⟨w.heap.size + 1, o, none⟩) (by simp <;> omega); have hg11 := fun o => hb1.frozen (p := ⟨w.heap.size + 1, o, none⟩) (by simp <;> omega)) | (go_at_call 60; refine (sTime_any _ _).mono ?_; rintro e w' ⟨rfl, rfl⟩; first | rw [h1] | rw [h2]))
    (try go_light)
    refine bodyPost_ret (v := .tuple #[.agg #[.int .i64 0, .int .i64 0, .int .i64 0], .bool false]) (by simp [results, Tryz.results203, go_sem, *]) rfl ⟨by rw [HF.out, HB0.out]; rfl, zBe⟩
set_option maxHeartbeats 4000000 in
theorem sprofMin_yes (A : Option Addr) (n c : Nat) (ps : List Q) (lo hi : Int) (w : World) (hn : n ≤ 1048576) (hr : Rd w A n 4 (flat ps)) (hl : ∀ g, A = some ⟨g, 0, none⟩ → g < w.heap.size) (h : minB ps lo hi = true) :
  Calls Tryz.prog 203 #[.agg #[.slice A n c], .int .i64 lo, .int .i64 hi] w fun e w' => e = .returned (.tuple #[.agg #[.int .i64 (minVv ps lo hi).A, .int .i64 (minVv ps lo hi).B, .int .i64 (minVv ps lo hi).C], .bool (minB ps lo hi)]) ∧ Below w.heap.size w w' := by
 have hB := h
 simp only [minB, Bool.and_eq_true] at h
 obtain ⟨hp, hs⟩ := h
 have hF : minVv ps lo hi = sleastV lo hi ps := by unfold minVv; rw [hB]; exact leastV_eq hp
 simp only [spanB, Bool.and_eq_true, decide_eq_true_eq] at hs
 obtain ⟨⟨h1, h2⟩, h3⟩ := hs
 have hpl : ps.length = n := by have := hr.1; rw [flat_len] at this; omega
 have hm : n ≤ 9223372036854775807 := by omega
 have HN := Lib.hid hn
 have HR := Lib.hid hr
 have HL := Lib.hid hl
 have HP := Lib.hid hpl
 clear hn hr hl hpl
 have HF := Lib.hid hF
 have HB0 := Lib.hid hB
 clear hF hB
 go_enter Tryz.func203, Tryz.ntmps203
 go_wp2_with (first | (go_at_call 145; refine (sprofOk_any _ _ _ _ _ HN.out (HR.out.below HL.out zBe) (zAi HL.out zBe)).mono ?_; rintro e w1 ⟨rfl, hb1⟩; rw [hp]; have hs1 := hb1.size; (try simp at hs1); have hk10 := fun o => hb1.cell (p := ⟨w.heap.size, o, none⟩) (by simp <;> omega); have hg10 := fun o => hb1.frozen (p := ⟨w.heap.size, o, none⟩) (by simp <;> omega); have hk11 := fun o => hb1.cell (p := ⟨w.heap.size + 1, o, none⟩) (by simp <;> omega); have hg11 := fun o => hb1.frozen (p := ⟨w.heap.size + 1, o, none⟩) (by simp <;> omega)) | (go_at_call 60; refine (sTime_any _ _).mono ?_; rintro e w' ⟨rfl, rfl⟩; first | rw [h1] | rw [h2]))
 refine (sfree_any A n c ps lo _ HN.out (HR.out.below HL.out zBe) (zAi HL.out zBe)).mono ?_
 rintro e w2 ⟨rfl, hb2⟩
 have hs2 := hb2.size
 have hk30 := fun o => hb2.cell (p := ⟨w.heap.size, o, none⟩) (show w.heap.size < w1.heap.size by omega)
 have hk3 := fun o => hb2.cell (p := ⟨w.heap.size + 1, o, none⟩) (show w.heap.size + 1 < w1.heap.size by omega)
 have hg3 := fun o => hb2.frozen (p := ⟨w.heap.size + 1, o, none⟩) (show w.heap.size + 1 < w1.heap.size by omega)
 have hy30 : w.heap.size < w2.heap.size := by omega
 have hy31 : w.heap.size + 1 < w2.heap.size := by omega
 go_wp2
 go_loopw [36] (fun i wr => ∃ k : Nat, k ≤ n ∧ i = .int .i64 k ∧ Below w.heap.size w wr ∧ w2.heap.size < wr.heap.size ∧ (wr.cell? ⟨w2.heap.size, 0, none⟩ = some (.int .i64 ((ps.take k).foldl (sleastF lo hi) (freeV lo ps)).A) ∧ wr.cell? ⟨w2.heap.size, 1, none⟩ = some (.int .i64 ((ps.take k).foldl (sleastF lo hi) (freeV lo ps)).B) ∧ wr.cell? ⟨w2.heap.size, 2, none⟩ = some (.int .i64 ((ps.take k).foldl (sleastF lo hi) (freeV lo ps)).C) ∧ ∀ o, wr.frozen? ⟨w2.heap.size, o, none⟩ = false) ∧ (wr.cell? ⟨w.heap.size + 1, 0, none⟩ = some (.int .i64 (V.zero).A) ∧ wr.cell? ⟨w.heap.size + 1, 1, none⟩ = some (.int .i64 (V.zero).B) ∧ wr.cell? ⟨w.heap.size + 1, 2, none⟩ = some (.int .i64 (V.zero).C) ∧ ∀ o, wr.frozen? ⟨w.heap.size + 1, o, none⟩ = false)) (fun i _ => n - (intOf i).toNat)
 case atStart =>
  refine ⟨0, Nat.zero_le _, rfl, (by repeat (first | exact Below.refl _ _ | assumption | (refine zAc ?_ (zAd _ _)) | exact zAc (by assumption) (by assumption) | (refine zAc ?_ (zAa _ _)) | (refine zAc ?_ (by assumption)) | (refine Below.setCell ?_ (by simp <;> omega) _) | refine Below.drew ?_ | (refine Below.trans ?_ (by assumption)))), by first | omega | (simp <;> omega), ⟨?_, ?_, ?_, ?_⟩, ⟨?_, ?_, ?_, ?_⟩⟩
  all_goals (first | (simp [go_sem, V.zero, *]; done) | (intro o; simp [go_sem, V.zero, *]; done))
 case round =>
  obtain ⟨k, hk, rfl, hbw, hsz, ⟨v0, v1, v2, vf⟩, ⟨r0, r1, r2, rf⟩⟩ := hrel
  have hsz1 : w.heap.size + 1 < wr.heap.size := by omega
  by_cases hlt : k < n
  ·have hlt' : (k : Int) < n := by omega
   obtain ⟨g, q, rfl, hq, d0, d1, d2, d3⟩ := HR.out.q hlt
   have hg := HL.out g rfl
   have D0 := (hbw.cell (p := ⟨g, k * 4, none⟩) hg).trans d0
   have D1 := (hbw.cell (p := ⟨g, k * 4 + 1, none⟩) hg).trans d1
   have D2 := (hbw.cell (p := ⟨g, k * 4 + 2, none⟩) hg).trans d2
   have D3 := (hbw.cell (p := ⟨g, k * 4 + 3, none⟩) hg).trans d3
   have hgr : g < wr.heap.size := Nat.lt_of_lt_of_le hg hbw.size
   have hst := foldl_step (sleastF lo hi) (freeV lo ps) hq
   have HS := Lib.hid hst
   have HB := Lib.hid hbw
   clear d0 d1 d2 d3 hst hq hbw
   by_cases h8 : lo ≤ q.t
   ·by_cases h9 : q.t < hi
    ·have hfr : sleastF lo hi ((ps.take k).foldl (sleastF lo hi) (freeV lo ps)) q = vminV ((ps.take k).foldl (sleastF lo hi) (freeV lo ps)) q.v := if_pos ⟨h8, h9⟩
     have HF := Lib.hid hfr
     clear hfr
     go_wp2_with fail
     refine (svmin_raw ((ps.take k).foldl (sleastF lo hi) (freeV lo ps)) q.v _).mono ?_
     rintro e w5 ⟨rfl, hb5⟩
     have hs5 := hb5.size
     (try simp at hs5)
     have hy50 : w2.heap.size < w5.heap.size := by omega
     have hk50 := fun o => hb5.cell (p := ⟨w2.heap.size, o, none⟩) zOm
     have hg50 := fun o => hb5.frozen (p := ⟨w2.heap.size, o, none⟩) zOm
     have hy51 : w.heap.size + 1 < w5.heap.size := by omega
     have hk51 := fun o => hb5.cell (p := ⟨w.heap.size + 1, o, none⟩) zOm
     have hg51 := fun o => hb5.frozen (p := ⟨w.heap.size + 1, o, none⟩) zOm
     go_wp2
     go_roundw
     case rel =>
      refine ⟨k + 1, by omega, by go_num, ?_, by first | omega | (simp <;> omega), ⟨?_, ?_, ?_, ?_⟩, ⟨?_, ?_, ?_, ?_⟩⟩
      ·have := HB.out; repeat (first | exact Below.refl _ _ | assumption | (refine zAc ?_ (zAd _ _)) | exact zAc (by assumption) (by assumption) | (refine zAc ?_ (zAa _ _)) | (refine zAc ?_ (by assumption)) | (refine Below.setCell ?_ (by simp <;> omega) _) | refine Below.drew ?_ | (refine Below.trans ?_ (by assumption)))
      all_goals (try rw [HS.out, HF.out])
      all_goals (first | (simp [go_sem, *]; done) | (intro o; simp [go_sem, *]; done))
     case measure => simp [intOf]; omega
    ·have hfr : sleastF lo hi ((ps.take k).foldl (sleastF lo hi) (freeV lo ps)) q = ((ps.take k).foldl (sleastF lo hi) (freeV lo ps)) := if_neg (fun hx => h9 hx.2)
     have hno : hi ≤ q.t := by omega
     have HF := Lib.hid hfr
     clear hfr h9
     go_wp2
     go_roundw
     case rel =>
      refine ⟨k + 1, by omega, by go_num, ?_, by first | omega | (simp <;> omega), ⟨?_, ?_, ?_, ?_⟩, ⟨?_, ?_, ?_, ?_⟩⟩
      ·have := HB.out; repeat (first | exact Below.refl _ _ | assumption | (refine zAc ?_ (zAd _ _)) | exact zAc (by assumption) (by assumption) | (refine zAc ?_ (zAa _ _)) | (refine zAc ?_ (by assumption)) | (refine Below.setCell ?_ (by simp <;> omega) _) | refine Below.drew ?_ | (refine Below.trans ?_ (by assumption)))
      all_goals (try rw [HS.out, HF.out])
      all_goals (first | (simp [go_sem, *]; done) | (intro o; simp [go_sem, *]; done))
     case measure => simp [intOf]; omega
   ·have hfr : sleastF lo hi ((ps.take k).foldl (sleastF lo hi) (freeV lo ps)) q = ((ps.take k).foldl (sleastF lo hi) (freeV lo ps)) := if_neg (fun hx => h8 hx.1)
    have hno : q.t < lo := by omega
    have HF := Lib.hid hfr
    clear hfr h8
    go_wp2
    go_roundw
    case rel =>
     refine ⟨k + 1, by omega, by go_num, ?_, by first | omega | (simp <;> omega), ⟨?_, ?_, ?_, ?_⟩, ⟨?_, ?_, ?_, ?_⟩⟩
     ·have := HB.out; repeat (first | exact Below.refl _ _ | assumption | (refine zAc ?_ (zAd _ _)) | exact zAc (by assumption) (by assumption) | (refine zAc ?_ (zAa _ _)) | (refine zAc ?_ (by assumption)) | (refine Below.setCell ?_ (by simp <;> omega) _) | refine Below.drew ?_ | (refine Below.trans ?_ (by assumption)))
     all_goals (try rw [HS.out, HF.out])
     all_goals (first | (simp [go_sem, *]; done) | (intro o; simp [go_sem, *]; done))
    case measure => simp [intOf]; omega
  ·have hk9 : k = n := by omega
   subst hk9
   rw [take_all HP.out] at v0 v1 v2
   have HB := Lib.hid hbw
   clear hbw
   go_wp2
   (try go_light)
   refine bodyPost_ret (v := .tuple #[.agg #[.int .i64 (sleastV lo hi ps).A, .int .i64 (sleastV lo hi ps).B, .int .i64 (sleastV lo hi ps).C], .bool true]) (by simp [results, Tryz.results203, go_sem, sleastV, *]) rfl ⟨by rw [HF.out, HB0.out], ?_⟩
   have := HB.out; repeat (first | exact Below.refl _ _ | assumption | (refine zAc ?_ (zAd _ _)) | exact zAc (by assumption) (by assumption) | (refine zAc ?_ (zAa _ _)) | (refine zAc ?_ (by assumption)) | (refine Below.setCell ?_ (by simp <;> omega) _) | refine Below.drew ?_ | (refine Below.trans ?_ (by assumption)))
theorem sprofMin_any (A : Option Addr) (n c : Nat) (ps : List Q) (lo hi : Int) (w : World) (hn : n ≤ 1048576) (hr : Rd w A n 4 (flat ps)) (hl : ∀ g, A = some ⟨g, 0, none⟩ → g < w.heap.size) :
  Calls Tryz.prog 203 #[.agg #[.slice A n c], .int .i64 lo, .int .i64 hi] w fun e w' => e = .returned (.tuple #[.agg #[.int .i64 (minVv ps lo hi).A, .int .i64 (minVv ps lo hi).B, .int .i64 (minVv ps lo hi).C], .bool (minB ps lo hi)]) ∧ Below w.heap.size w w' := by
 cases h : minB ps lo hi
 ·rw [← h]; exact sprofMin_no A n c ps lo hi w hn hr hl h
 ·rw [← h]; exact sprofMin_yes A n c ps lo hi w hn hr hl h
end Go.Proofs.YtnphjhbfpoekpaaGreat
