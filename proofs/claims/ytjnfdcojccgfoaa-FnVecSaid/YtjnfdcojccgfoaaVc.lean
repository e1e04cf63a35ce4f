import Derived.Test.YtjnfdcojccgfoaaVb
import Derived.Deep.Light
namespace Go.Proofs.Ytjnfdcojccgfoaa
set_option linter.unusedSimpArgs false
set_option linter.unusedVariables false
set_option linter.unnecessarySimpa false
open Go.RowKit
theorem subV_fit (a b : V) (h : fitsB b.A b.B b.C a.A a.B a.C = true) : subV a b = difV a b ∧ subB a b = true := by
  have w (x : Int) (h : -1000001 ≤ x ∧ x ≤ 1000001) : wrap64 x = x := IntWalk.wrap64_in x (by omega)
  have h1 : (0 ≤ a.A - b.A ∧ a.A - b.A ≤ 1000000) ∧ (0 ≤ a.B - b.B ∧ a.B - b.B ≤ 1000000) ∧ (0 ≤ a.C - b.C ∧ a.C - b.C ≤ 1000000) := by
    simp [fitsB, vecOkB, resB, inB] at h; omega
  have e : (difV a b).ok = true := by
    simp only [difV, V.ok, vecOkB, resB, inB, w _ (show _ by omega : -1000001 ≤ a.A - b.A ∧ a.A - b.A ≤ 1000001), w _ (show _ by omega : -1000001 ≤ a.B - b.B ∧ a.B - b.B ≤ 1000001), w _ (show _ by omega : -1000001 ≤ a.C - b.C ∧ a.C - b.C ≤ 1000001)]
    simp; omega
  have e2 : a.ok = true ∧ b.ok = true := by simp_all [fitsB, V.ok]
  simp [subV, subB, validV, validB, e, e2]
theorem subV_no (a b : V) (h : fitsB b.A b.B b.C a.A a.B a.C = false) : subV a b = V.zero ∧ subB a b = false := by
  have w (x : Int) (h : -1000001 ≤ x ∧ x ≤ 1000001) : wrap64 x = x := IntWalk.wrap64_in x (by omega)
  have e : subB a b = false := by
    cases hh : subB a b with
    | false => rfl
    | true =>
      exfalso
      simp only [subB, validB, V.ok, Bool.and_eq_true] at hh
      obtain ⟨⟨ha, hb⟩, hd⟩ := hh
      have ha' := ha
      have hb' := hb
      simp [vecOkB, resB, inB] at ha hb
      simp only [difV, vecOkB, resB, inB, w _ (show _ by omega : -1000001 ≤ a.A - b.A ∧ a.A - b.A ≤ 1000001), w _ (show _ by omega : -1000001 ≤ a.B - b.B ∧ a.B - b.B ≤ 1000001), w _ (show _ by omega : -1000001 ≤ a.C - b.C ∧ a.C - b.C ≤ 1000001)] at hd
      simp at hd
      simp [fitsB, ha', hb'] at h
      omega
  refine ⟨?_, e⟩
  simp only [subB, validB] at e
  simp [subV, validV, e]

set_option maxHeartbeats 1000000 in
theorem sadd_raw (a b : V) (w : World) :
    Calls Try.prog 54 #[.agg #[.int .i64 a.A, .int .i64 a.B, .int .i64 a.C], .agg #[.int .i64 b.A, .int .i64 b.B, .int .i64 b.C]] w fun e w' => e = .returned (.tuple #[.agg #[.int .i64 (addV a b).A, .int .i64 (addV a b).B, .int .i64 (addV a b).C], .bool (addB a b)]) ∧ Below w.heap.size w w' := by
  go_enter Try.func54, Try.ntmps54
  go_wp2_with (go_at_call 51; refine (svecOk_raw _ _ _ _).mono ?_; rintro e w1 ⟨rfl, hb1⟩; (first | (have hy1 : w.heap.size < w1.heap.size ∧ w.heap.size + 1 < w1.heap.size ∧ w.heap.size + 1 + 1 < w1.heap.size ∧ w.heap.size + 1 + 1 + 1 < w1.heap.size := (by have hs := hb1.size; (try simp at hs); (first | trivial | omega))) | (have hy1 : w.heap.size < w1.heap.size ∧ w.heap.size + 1 < w1.heap.size ∧ w.heap.size + 1 + 1 < w1.heap.size := (by have hs := hb1.size; (try simp at hs); (first | trivial | omega)))); obtain ⟨hc1, hf1⟩ := bcell hb1)
  all_goals go_light
  all_goals refine bodyPost_ret (v := .tuple #[.agg #[.int .i64 (addV a b).A, .int .i64 (addV a b).B, .int .i64 (addV a b).C], .bool (addB a b)]) (by simp [results, Try.results54, go_sem, *] <;> grind [addV, addB, validV, validB, V.ok, sumV, V.zero]) rfl ⟨rfl, (by repeat (first | exact Below.refl _ _ | (refine bstep ?_ (below_alloc _ _)) | (refine bstep ?_ (by assumption)) | (refine Below.setCell ?_ (by simp <;> omega) _) | refine Below.drew ?_))⟩

set_option maxHeartbeats 1000000 in
theorem ssub_raw (a b : V) (w : World) :
    Calls Try.prog 176 #[.agg #[.int .i64 a.A, .int .i64 a.B, .int .i64 a.C], .agg #[.int .i64 b.A, .int .i64 b.B, .int .i64 b.C]] w fun e w' => e = .returned (.tuple #[.agg #[.int .i64 (subV a b).A, .int .i64 (subV a b).B, .int .i64 (subV a b).C], .bool (subB a b)]) ∧ Below w.heap.size w w' := by
  go_enter Try.func176, Try.ntmps176
  go_wp2_with (go_at_call 177; refine (svecFits_raw _ _ _ _ _ _ _).mono ?_; rintro e w1 ⟨rfl, hb1⟩; have hy1 : w.heap.size < w1.heap.size ∧ w.heap.size + 1 < w1.heap.size ∧ w.heap.size + 1 + 1 < w1.heap.size := (by have hs := hb1.size; (try simp at hs); (first | trivial | omega)); obtain ⟨hc1, hf1⟩ := bcell hb1)
  all_goals go_light
  · have h : fitsB b.A b.B b.C a.A a.B a.C = false := by simp_all
    rw [(subV_no a b h).1, (subV_no a b h).2]
    (try go_light); refine bodyPost_ret (v := .tuple #[.agg #[.int .i64 0, .int .i64 0, .int .i64 0], .bool false]) (by simp [results, Try.results176, go_sem, *]) rfl ⟨rfl, (by repeat (first | exact Below.refl _ _ | (refine bstep ?_ (below_alloc _ _)) | (refine bstep ?_ (by assumption)) | (refine Below.setCell ?_ (by simp <;> omega) _) | refine Below.drew ?_))⟩
  · have h : fitsB b.A b.B b.C a.A a.B a.C = true := by simp_all
    rw [(subV_fit a b h).1, (subV_fit a b h).2]
    (try go_light); refine bodyPost_ret (v := .tuple #[.agg #[.int .i64 (difV a b).A, .int .i64 (difV a b).B, .int .i64 (difV a b).C], .bool true]) (by simp [results, Try.results176, go_sem, difV, *]) rfl ⟨rfl, (by repeat (first | exact Below.refl _ _ | (refine bstep ?_ (below_alloc _ _)) | (refine bstep ?_ (by assumption)) | (refine Below.setCell ?_ (by simp <;> omega) _) | refine Below.drew ?_))⟩
end Go.Proofs.Ytjnfdcojccgfoaa
