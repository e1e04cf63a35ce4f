import Derived.Test.YtjnfdcojccgfoaaNu
import Derived.Test.YtjnfdcojccgfoaaNq
import Derived.Deep.Light
import Derived.Deep.DeepCutAuto
namespace Go.Proofs.Ytjnfdcojccgfoaa
set_option linter.unusedSimpArgs false
set_option linter.unusedVariables false
set_option linter.unnecessarySimpa false
open Go.RowKit
def tvecV (s : ByteArray) : V := if tvIs s then ⟨tvA s, tvB s, tvC s⟩ else V.zero
theorem pieces_size (s : ByteArray) (u : UInt8) (k : Nat) : ∀ p ∈ (pieces s u k).1, p.size ≤ s.size := by
  induction k with
  | zero => simp [pieces]
  | succ k ih =>
    unfold pieces
    split
    · intro p hp
      rcases List.mem_append.1 hp with h | h
      · exact ih p h
      · simp at h; subst h; rw [ByteArray.size_extract]; omega
    · exact ih
theorem parts_size (s : ByteArray) (u : UInt8) : ∀ p ∈ parts s u, p.size ≤ s.size := by
  intro p hp
  rcases List.mem_append.1 hp with h | h
  · exact pieces_size s u _ p h
  · simp at h; subst h; rw [ByteArray.size_extract]; omega
theorem own_all {w : World} {lo : Nat} {e : TypeId} {v : Value} {n : Nat} {xs : List Value} (h : w.ownsRow lo e 1 v n xs) : ∃ A c, v = .slice A n c ∧ Rd w A n 1 xs ∧ (∀ g, A = some ⟨g, 0, none⟩ → lo ≤ g ∧ g < w.heap.size) := by
  obtain ⟨A, c, rfl, hr⟩ := own_rd h
  exact ⟨A, c, rfl, hr, fun g hg => ⟨own_ge h g (by rw [hg]; rfl), own_lt h g (by rw [hg]; rfl)⟩⟩

set_option maxHeartbeats 4000000 in
theorem textVec_any (s : ByteArray) (w : World) (hs : s.size ≤ 1048576) :
    Calls Try.prog 52 #[.string s] w fun e w' => e = .returned (.tuple #[.agg #[.int .i64 (tvecV s).A, .int .i64 (tvecV s).B, .int .i64 (tvecV s).C], .bool (tvIs s)]) ∧ Below w.heap.size w w' := by
  have HS := Lib.hid hs
  clear hs
  by_cases hn : (parts s 47).length = 3
  · obtain ⟨p0, p1, p2, hp⟩ : ∃ a b c, parts s 47 = [a, b, c] := by
      match hq : parts s 47, hn with
      | [a, b, c], _ => exact ⟨a, b, c, rfl⟩
    have ht := tv_three hp
    have hz0 : p0.size ≤ 1048576 := Nat.le_trans (parts_size s 47 p0 (by rw [hp]; simp)) HS.out
    have hz1 : p1.size ≤ 1048576 := Nat.le_trans (parts_size s 47 p1 (by rw [hp]; simp)) HS.out
    have hz2 : p2.size ≤ 1048576 := Nat.le_trans (parts_size s 47 p2 (by rw [hp]; simp)) HS.out
    have hV : tvIs s = true → tvecV s = ⟨tnumV p0, tnumV p1, tnumV p2⟩ := fun h => by
      simp [tvecV, h, tvA, tvB, tvC, tvAt, hp]
    have hP := Lib.hid hp
    have HT := Lib.hid ht
    have HV := Lib.hid hV
    have Z0 := Lib.hid hz0
    have Z1 := Lib.hid hz1
    have Z2 := Lib.hid hz2
    clear hp ht hV hn hz0 hz1 hz2
    go_enter Try.func52, Try.ntmps52
    go_wp2_with fail
    refine (parts_any s 47 47 rfl _ HS.out).mono ?_
    rintro e w1 ⟨v1, rfl, own1, hb1⟩
    rw [hP.out] at own1
    obtain ⟨A, c, rfl, rd, lt⟩ := own_all own1
    obtain ⟨g, rfl, hc⟩ := rd.2 (by simp)
    have c0 := hc 0 _ rfl
    have c1 := hc 1 _ rfl
    have c2 := hc 2 _ rfl
    obtain ⟨hg0, hg1⟩ := lt g rfl
    simp at hg0
    have hk0 := hb1.cell (p := ⟨w.heap.size, 0, none⟩) (by simp)
    have hk1 := hb1.cell (p := ⟨w.heap.size, 1, none⟩) (by simp)
    have hk2 := hb1.cell (p := ⟨w.heap.size, 2, none⟩) (by simp)
    have hq0 := hb1.frozen (p := ⟨w.heap.size, 0, none⟩) (by simp)
    have hq1 := hb1.frozen (p := ⟨w.heap.size, 1, none⟩) (by simp)
    have hq2 := hb1.frozen (p := ⟨w.heap.size, 2, none⟩) (by simp)
    have hy0 : w.heap.size < w1.heap.size := by have := hb1.size; simp at this; omega
    clear own1 rd lt hc
    go_wp2_with fail
    refine (textNum_any p0 _ (by unfold maxLen; have := Z0.out; omega)).mono ?_
    rintro e w2 ⟨rfl, hb2⟩
    obtain ⟨hc2, hf2⟩ := bcell hb2
    have hg12 : g < w2.heap.size := Nat.lt_of_lt_of_le hg1 hb2.size
    have hy2 : w.heap.size < w2.heap.size := Nat.lt_of_lt_of_le hy0 hb2.size
    have hm2 := fun o => hc2 g o hg1
    have hn2 := fun o => hc2 w.heap.size o hy0
    have ho2 := fun o => hf2 w.heap.size o hy0
    clear hc2 hf2
    go_wp2_with fail
    refine (textNum_any p1 _ (by unfold maxLen; have := Z1.out; omega)).mono ?_
    rintro e w3 ⟨rfl, hb3⟩
    obtain ⟨hc3, hf3⟩ := bcell hb3
    have hg13 : g < w3.heap.size := Nat.lt_of_lt_of_le hg12 hb3.size
    have hy3 : w.heap.size < w3.heap.size := Nat.lt_of_lt_of_le hy2 hb3.size
    have hm3 := fun o => hc3 g o hg12
    have hn3 := fun o => hc3 w.heap.size o hy2
    have ho3 := fun o => hf3 w.heap.size o hy2
    clear hc3 hf3
    go_wp2_with fail
    refine (textNum_any p2 _ (by unfold maxLen; have := Z2.out; omega)).mono ?_
    rintro e w4 ⟨rfl, hb4⟩
    obtain ⟨hc4, hf4⟩ := bcell hb4
    have hg14 : g < w4.heap.size := Nat.lt_of_lt_of_le hg13 hb4.size
    have hy4 : w.heap.size < w4.heap.size := Nat.lt_of_lt_of_le hy3 hb4.size
    have hm4 := fun o => hc4 g o hg13
    have hn4 := fun o => hc4 w.heap.size o hy3
    have ho4 := fun o => hf4 w.heap.size o hy3
    clear hc4 hf4
    go_wp2_with (go_at_call 106; refine (vecOk_raw _ _ _ _).mono ?_; rintro e w9 ⟨rfl, hb9⟩; obtain ⟨hc9, hf9⟩ := bcell hb9; have hs9 := hb9.size; (try simp at hs9); have hy90 : g < w9.heap.size := (by omega); have hk90 := fun o => hc9 (g) o (by first | omega | (simp <;> omega)); have hg90 := fun o => hf9 (g) o (by first | omega | (simp <;> omega)); have hy91 : w.heap.size < w9.heap.size := (by omega); have hk91 := fun o => hc9 (w.heap.size) o (by first | omega | (simp <;> omega)); have hg91 := fun o => hf9 (w.heap.size) o (by first | omega | (simp <;> omega)); (try (have hx90 : w1.heap.size < w9.heap.size := (by omega); have hm90 := fun o => hc9 (w1.heap.size) o (by first | omega | (simp <;> omega)); have hn90 := fun o => hf9 (w1.heap.size) o (by first | omega | (simp <;> omega)))); (try (have hx91 : w2.heap.size < w9.heap.size := (by omega); have hm91 := fun o => hc9 (w2.heap.size) o (by first | omega | (simp <;> omega)); have hn91 := fun o => hf9 (w2.heap.size) o (by first | omega | (simp <;> omega)))); (try (have hx92 : w3.heap.size < w9.heap.size := (by omega); have hm92 := fun o => hc9 (w3.heap.size) o (by first | omega | (simp <;> omega)); have hn92 := fun o => hf9 (w3.heap.size) o (by first | omega | (simp <;> omega)))); (try (have hx93 : w4.heap.size < w9.heap.size := (by omega); have hm93 := fun o => hc9 (w4.heap.size) o (by first | omega | (simp <;> omega)); have hn93 := fun o => hf9 (w4.heap.size) o (by first | omega | (simp <;> omega)))); (try (have hx94 : w5.heap.size < w9.heap.size := (by omega); have hm94 := fun o => hc9 (w5.heap.size) o (by first | omega | (simp <;> omega)); have hn94 := fun o => hf9 (w5.heap.size) o (by first | omega | (simp <;> omega)))); (try (have hx95 : w6.heap.size < w9.heap.size := (by omega); have hm95 := fun o => hc9 (w6.heap.size) o (by first | omega | (simp <;> omega)); have hn95 := fun o => hf9 (w6.heap.size) o (by first | omega | (simp <;> omega)))); (try (have hx96 : w7.heap.size < w9.heap.size := (by omega); have hm96 := fun o => hc9 (w7.heap.size) o (by first | omega | (simp <;> omega)); have hn96 := fun o => hf9 (w7.heap.size) o (by first | omega | (simp <;> omega)))); (try (have hx97 : w8.heap.size < w9.heap.size := (by omega); have hm97 := fun o => hc9 (w8.heap.size) o (by first | omega | (simp <;> omega)); have hn97 := fun o => hf9 (w8.heap.size) o (by first | omega | (simp <;> omega)))); clear hc9 hf9)
    all_goals go_light
    all_goals
      cases e1 : tvIs s
      · first
          | (exfalso; rw [HT.out] at e1; simp_all; done)
          | (rw [show tvecV s = V.zero from by simp [tvecV, e1]]; refine bodyPost_ret (v := .tuple #[.agg #[.int .i64 0, .int .i64 0, .int .i64 0], .bool false]) (by simp [results, Try.results52, go_sem, V.zero, *]) rfl ⟨rfl, (by repeat (first | exact Below.refl _ _ | (refine bstep ?_ (below_alloc _ _)) | (refine bstep ?_ (by assumption)) | (refine Below.setCell ?_ (by simp <;> omega) _) | refine Below.drew ?_))⟩)
      · first
          | (exfalso; rw [HT.out] at e1; simp_all; done)
          | (rw [HV.out e1]; refine bodyPost_ret (v := .tuple #[.agg #[.int .i64 (tnumV p0), .int .i64 (tnumV p1), .int .i64 (tnumV p2)], .bool true]) (by simp [results, Try.results52, go_sem, *]) rfl ⟨rfl, (by repeat (first | exact Below.refl _ _ | (refine bstep ?_ (below_alloc _ _)) | (refine bstep ?_ (by assumption)) | (refine Below.setCell ?_ (by simp <;> omega) _) | refine Below.drew ?_))⟩)
  · have e1 := tv_other hn
    have e2 : tvecV s = V.zero := by simp [tvecV, e1]
    rw [e1, e2]
    clear e1 e2
    have hn' : (((parts s 47).length : Int) == 3) = false := by
      rw [beq_eq_false_iff_ne]; omega
    clear hn
    go_enter Try.func52, Try.ntmps52
    go_wp2_with fail
    refine (parts_any s 47 47 rfl _ HS.out).mono ?_
    rintro e w1 ⟨v1, rfl, own1, hb1⟩
    obtain ⟨A, c, rfl, rd, lt⟩ := own_all own1
    have hk0 := hb1.cell (p := ⟨w.heap.size, 0, none⟩) (by simp)
    have hk1 := hb1.cell (p := ⟨w.heap.size, 1, none⟩) (by simp)
    have hk2 := hb1.cell (p := ⟨w.heap.size, 2, none⟩) (by simp)
    have hq0 := hb1.frozen (p := ⟨w.heap.size, 0, none⟩) (by simp)
    have hq1 := hb1.frozen (p := ⟨w.heap.size, 1, none⟩) (by simp)
    have hq2 := hb1.frozen (p := ⟨w.heap.size, 2, none⟩) (by simp)
    clear own1 rd lt
    go_wp2
    go_light
    refine bodyPost_ret (v := .tuple #[.agg #[.int .i64 0, .int .i64 0, .int .i64 0], .bool false]) (by simp [results, Try.results52, go_sem, V.zero, *]) rfl ⟨rfl, (by repeat (first | exact Below.refl _ _ | (refine bstep ?_ (below_alloc _ _)) | (refine bstep ?_ (by assumption)) | (refine Below.setCell ?_ (by simp <;> omega) _) | refine Below.drew ?_))⟩
end Go.Proofs.Ytjnfdcojccgfoaa
