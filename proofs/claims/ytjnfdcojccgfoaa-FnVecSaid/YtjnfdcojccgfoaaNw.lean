import Derived.Test.YtjnfdcojccgfoaaNv
namespace Go.Proofs.Ytjnfdcojccgfoaa
set_option linter.unusedSimpArgs false
set_option linter.unusedVariables false
set_option linter.unnecessarySimpa false
open Go.RowKit
def upTo (s : ByteArray) (k j : Nat) : Int := if j < k then tvAt s j else 0
theorem upTo_end (s : ByteArray) (j : Nat) : upTo s (parts s 47).length j = tvAt s j := by
  unfold upTo
  split
  · rfl
  · rename_i h
    rw [tvAt, List.getElem?_eq_none (by omega)]
theorem upTo_step (s : ByteArray) (k j : Nat) (h : k ≠ j) : upTo s (k + 1) j = upTo s k j := by
  unfold upTo
  by_cases h1 : j < k
  · rw [if_pos h1, if_pos (by omega)]
  · rw [if_neg h1, if_neg (by omega)]
theorem upTo_at (s : ByteArray) (k : Nat) : upTo s (k + 1) k = tvAt s k := by simp [upTo]
theorem tvAt_get {s : ByteArray} {k : Nat} {p : ByteArray} (h : (parts s 47)[k]? = some p) : tvAt s k = tnumV p := by rw [tvAt, h]
theorem scSame {w : World} {a : Addr} {v u : Value} (h : w.cell? a = some u) : (w.setCell a v).cell? a = some v := World.cell?_setCell_same' w a v (by rw [h]; rfl)
theorem scOther {w : World} {a b : Addr} {v : Value} (h : a ≠ b) : (w.setCell a v).cell? b = w.cell? b := by
  first | exact World.cell?_setCell_other h | exact World.cell?_setCell_other _ _ _ _ h | exact World.cell?_setCell_other w a b v h | exact World.cell?_setCell_other w a v b h
theorem scFrozen {w : World} {a b : Addr} {v : Value} : (w.setCell a v).frozen? b = w.frozen? b := by simp
/-- What the loop of TextVec keeps: the three numbers in block b1, the result's cells in block b0. -/
structure TvKeep (w wr : World) (x y z : Int) : Prop where
  c0 : wr.cell? ⟨w.heap.size + 1, 0, none⟩ = some (.int .i64 x)
  c1 : wr.cell? ⟨w.heap.size + 1, 1, none⟩ = some (.int .i64 y)
  c2 : wr.cell? ⟨w.heap.size + 1, 2, none⟩ = some (.int .i64 z)
  f : ∀ o, wr.frozen? ⟨w.heap.size + 1, o, none⟩ = false
  z0 : wr.cell? ⟨w.heap.size, 0, none⟩ = some (.int .i64 0)
  z1 : wr.cell? ⟨w.heap.size, 1, none⟩ = some (.int .i64 0)
  z2 : wr.cell? ⟨w.heap.size, 2, none⟩ = some (.int .i64 0)
  fz : ∀ o, wr.frozen? ⟨w.heap.size, o, none⟩ = false
  sz : w.heap.size + 1 < wr.heap.size
theorem TvKeep.below {w wr w' : World} {x y z : Int} (h : TvKeep w wr x y z) (hb : Below wr.heap.size wr w') : TvKeep w w' x y z := by
  obtain ⟨hc, hf⟩ := bcell hb
  have h0 : w.heap.size < wr.heap.size := by have := h.sz; omega
  exact ⟨(hc _ _ h.sz).trans h.c0, (hc _ _ h.sz).trans h.c1, (hc _ _ h.sz).trans h.c2, fun o => (hf _ _ h.sz).trans (h.f o), (hc _ _ h0).trans h.z0, (hc _ _ h0).trans h.z1, (hc _ _ h0).trans h.z2, fun o => (hf _ _ h0).trans (h.fz o), Nat.lt_of_lt_of_le h.sz hb.size⟩
theorem TvKeep.set0 {w wr : World} {x y z : Int} (h : TvKeep w wr x y z) (v : Int) : TvKeep w (wr.setCell ⟨w.heap.size + 1, 0, none⟩ (.int .i64 v)) v y z := by
  have hs := h.sz
  refine ⟨?_, ?_, ?_, ?_, ?_, ?_, ?_, ?_, by simp [World.setCell]; exact hs⟩
  · exact scSame h.c0
  · rw [scOther (by simp)]; exact h.c1
  · rw [scOther (by simp)]; exact h.c2
  · intro o; rw [scFrozen]; exact h.f o
  · rw [scOther (by simp)]; exact h.z0
  · rw [scOther (by simp)]; exact h.z1
  · rw [scOther (by simp)]; exact h.z2
  · intro o; rw [scFrozen]; exact h.fz o
theorem TvKeep.set1 {w wr : World} {x y z : Int} (h : TvKeep w wr x y z) (v : Int) : TvKeep w (wr.setCell ⟨w.heap.size + 1, 1, none⟩ (.int .i64 v)) x v z := by
  have hs := h.sz
  refine ⟨?_, ?_, ?_, ?_, ?_, ?_, ?_, ?_, by simp [World.setCell]; exact hs⟩
  · rw [scOther (by simp)]; exact h.c0
  · exact scSame h.c1
  · rw [scOther (by simp)]; exact h.c2
  · intro o; rw [scFrozen]; exact h.f o
  · rw [scOther (by simp)]; exact h.z0
  · rw [scOther (by simp)]; exact h.z1
  · rw [scOther (by simp)]; exact h.z2
  · intro o; rw [scFrozen]; exact h.fz o
theorem TvKeep.set2 {w wr : World} {x y z : Int} (h : TvKeep w wr x y z) (v : Int) : TvKeep w (wr.setCell ⟨w.heap.size + 1, 2, none⟩ (.int .i64 v)) x y v := by
  have hs := h.sz
  refine ⟨?_, ?_, ?_, ?_, ?_, ?_, ?_, ?_, by simp [World.setCell]; exact hs⟩
  · rw [scOther (by simp)]; exact h.c0
  · rw [scOther (by simp)]; exact h.c1
  · exact scSame h.c2
  · intro o; rw [scFrozen]; exact h.f o
  · rw [scOther (by simp)]; exact h.z0
  · rw [scOther (by simp)]; exact h.z1
  · rw [scOther (by simp)]; exact h.z2
  · intro o; rw [scFrozen]; exact h.fz o

theorem vtxtSize (a b c : Int) : (vtxtB a b c).size ≤ 100 := by
  unfold vtxtB
  split
  · have h1 := txtB_size a
    have h2 := txtB_size b
    have h3 := txtB_size c
    have h4 : slashB.size = 1 := rfl
    simp only [ByteArray.size_append]
    omega
  · decide
theorem Rd.step_ {w w' : World} {A : Option Addr} {n : Nat} {xs : List Value} {p : Addr} (h : Rd w A n 1 xs) (hb : Below w.heap.size w w') (hlt : ∀ g, A = some ⟨g, 0, none⟩ → g < w.heap.size) (hp : ∀ g, A = some ⟨g, 0, none⟩ → g ≠ p.block) (v : Value) : Rd (w'.setCell p v) A n 1 xs :=
  ⟨h.1, fun hn => by
    obtain ⟨g, rfl, hc⟩ := h.2 hn
    refine ⟨g, rfl, fun j u hj => ?_⟩
    rw [scOther (fun e => hp g rfl (by rw [e]))]
    exact (hb.cell (p := ⟨g, j, none⟩) (hlt g rfl)).trans (hc j u hj)⟩
set_option maxHeartbeats 4000000 in
theorem stextVec_any (s : ByteArray) (w : World) (hs : s.size ≤ 1048576) :
    Calls Try.prog 153 #[.string s] w fun e w' => e = .returned (.tuple #[.agg #[.int .i64 (tvecV s).A, .int .i64 (tvecV s).B, .int .i64 (tvecV s).C], .bool (tvIs s)]) ∧ Below w.heap.size w w' := by
  have HS := Lib.hid hs
  have hpl := (pieces_le s 47 s.size).1
  have HL := Lib.hid (show (parts s 47).length ≤ 1048577 by simp [parts]; omega)
  have hmn : (parts s 47).length ≤ 9223372036854775807 := by have := HL.out; omega
  clear hs hpl
  go_enter Try.func153, Try.ntmps153
  go_wp2_with fail
  refine (sparts_any s 47 47 rfl _ HS.out).mono ?_
  rintro e w1 ⟨v1, rfl, own1, hb1⟩
  obtain ⟨A, c, rfl, rd, lt⟩ := own_all own1
  have hbw1 : Below w.heap.size w w1 := bstep (bstep (below_alloc _ _) (below_alloc _ _)) hb1
  have K1 : TvKeep w w1 (upTo s 0 0) (upTo s 0 1) (upTo s 0 2) := by
    have h0 := fun i => hb1.cell (p := ⟨w.heap.size, i, none⟩) (by simp; omega)
    have h1 := fun i => hb1.cell (p := ⟨w.heap.size + 1, i, none⟩) (by simp)
    have g0 := fun i => hb1.frozen (p := ⟨w.heap.size, i, none⟩) (by simp; omega)
    have g1 := fun i => hb1.frozen (p := ⟨w.heap.size + 1, i, none⟩) (by simp)
    have hz := hb1.size
    simp at hz
    refine ⟨?_, ?_, ?_, ?_, ?_, ?_, ?_, ?_, by omega⟩
    all_goals first | (rw [h1]; simp [go_sem, upTo]; done) | (rw [h0]; simp [go_sem]; done) | (intro o; rw [g1]; simp [go_sem]; done) | (intro o; rw [g0]; simp [go_sem]; done)
  have lt' : ∀ g, A = some ⟨g, 0, none⟩ → w.heap.size + 1 < g ∧ g < w1.heap.size := fun g hg => by
    have := lt g hg
    simp at this
    omega
  have R1 := Lib.hid rd
  have L1 := Lib.hid lt'
  have HK1 := Lib.hid K1
  clear own1 rd lt lt' K1 hb1
  go_wp2_with fail
  go_loopw [12] (fun i wr => ∃ k : Nat, k ≤ (parts s 47).length ∧ i = .int .i64 k ∧ TvKeep w wr (upTo s k 0) (upTo s k 1) (upTo s k 2) ∧ Rd wr A (parts s 47).length 1 ((parts s 47).map Value.string) ∧ Below w.heap.size w wr ∧ w1.heap.size ≤ wr.heap.size) (fun i _ => (parts s 47).length - (intOf i).toNat)
  case atStart => exact ⟨0, Nat.zero_le _, rfl, HK1.out, R1.out, hbw1, Nat.le_refl _⟩
  case round =>
    obtain ⟨k, hk, rfl, K, R, hbw, hw1⟩ := hrel
    have HK := Lib.hid K
    have HR := Lib.hid R
    clear K R
    by_cases hlt : k < (parts s 47).length
    · obtain ⟨g, u, rfl, hu, hc⟩ := HR.out.at_ hlt
      obtain ⟨hg0, hg1⟩ := L1.out g rfl
      have hg : g < wr.heap.size := by omega
      rw [List.getElem?_map, List.getElem?_eq_getElem hlt] at hu
      obtain rfl := Option.some.inj hu
      have hp : (parts s 47)[k]? = some (parts s 47)[k] := List.getElem?_eq_getElem hlt
      have hz : (parts s 47)[k].size ≤ 1048576 := Nat.le_trans (parts_size s 47 _ (List.getElem_mem hlt)) HS.out
      generalize (parts s 47)[k] = p at *
      have HP := Lib.hid hp
      have HZ := Lib.hid hz
      clear hu hp hz
      have hlt' : (k : Int) < (parts s 47).length := by omega
      by_cases h3 : k < 3
      · have hk3 : k = 0 ∨ k = 1 ∨ k = 2 := by omega
        rcases hk3 with rfl | rfl | rfl
        · skip
          go_wp2_with fail
          refine (stextNum_any p _ (by unfold maxLen; have := HZ.out; omega)).mono ?_
          rintro e w2 ⟨rfl, hb2⟩
          have K2 := HK.out.below hb2
          have hg2 : g < w2.heap.size := Nat.lt_of_lt_of_le hg hb2.size
          have HK2 := Lib.hid K2
          obtain ⟨k0, k1, k2, kf, kz0, kz1, kz2, kfz, ksz⟩ := K2
          go_wp2
          go_roundw
          case rel =>
            refine ⟨1, by omega, by go_num, ?_, ?_, ?_⟩
            · show TvKeep w _ (upTo s (0 + 1) 0) (upTo s (0 + 1) 1) (upTo s (0 + 1) 2)
              rw [upTo_at s 0, upTo_step s 0 1 (by omega), upTo_step s 0 2 (by omega), tvAt_get HP.out]
              exact HK2.out.set0 (tnumV p)
            · exact HR.out.step_ hb2 (fun g' hg' => by injection hg' with h1; injection h1 with h2; omega) (fun g' hg' => by injection hg' with h1; injection h1 with h2; simp; omega) _
            · exact ⟨(bstep hbw hb2).setCell (by simp) _, by simp [World.setCell]; have := hb2.size; omega⟩
          case measure => simp [intOf]; omega
        · skip
          go_wp2_with fail
          refine (stextNum_any p _ (by unfold maxLen; have := HZ.out; omega)).mono ?_
          rintro e w2 ⟨rfl, hb2⟩
          have K2 := HK.out.below hb2
          have hg2 : g < w2.heap.size := Nat.lt_of_lt_of_le hg hb2.size
          have HK2 := Lib.hid K2
          obtain ⟨k0, k1, k2, kf, kz0, kz1, kz2, kfz, ksz⟩ := K2
          go_wp2
          go_roundw
          case rel =>
            refine ⟨2, by omega, by go_num, ?_, ?_, ?_⟩
            · show TvKeep w _ (upTo s (1 + 1) 0) (upTo s (1 + 1) 1) (upTo s (1 + 1) 2)
              rw [upTo_at s 1, upTo_step s 1 0 (by omega), upTo_step s 1 2 (by omega), tvAt_get HP.out]
              exact HK2.out.set1 (tnumV p)
            · exact HR.out.step_ hb2 (fun g' hg' => by injection hg' with h1; injection h1 with h2; omega) (fun g' hg' => by injection hg' with h1; injection h1 with h2; simp; omega) _
            · exact ⟨(bstep hbw hb2).setCell (by simp) _, by simp [World.setCell]; have := hb2.size; omega⟩
          case measure => simp [intOf]; omega
        · skip
          go_wp2_with fail
          refine (stextNum_any p _ (by unfold maxLen; have := HZ.out; omega)).mono ?_
          rintro e w2 ⟨rfl, hb2⟩
          have K2 := HK.out.below hb2
          have hg2 : g < w2.heap.size := Nat.lt_of_lt_of_le hg hb2.size
          have HK2 := Lib.hid K2
          obtain ⟨k0, k1, k2, kf, kz0, kz1, kz2, kfz, ksz⟩ := K2
          go_wp2
          go_roundw
          case rel =>
            refine ⟨3, by omega, by go_num, ?_, ?_, ?_⟩
            · show TvKeep w _ (upTo s (2 + 1) 0) (upTo s (2 + 1) 1) (upTo s (2 + 1) 2)
              rw [upTo_at s 2, upTo_step s 2 0 (by omega), upTo_step s 2 1 (by omega), tvAt_get HP.out]
              exact HK2.out.set2 (tnumV p)
            · exact HR.out.step_ hb2 (fun g' hg' => by injection hg' with h1; injection h1 with h2; omega) (fun g' hg' => by injection hg' with h1; injection h1 with h2; simp; omega) _
            · exact ⟨(bstep hbw hb2).setCell (by simp) _, by simp [World.setCell]; have := hb2.size; omega⟩
          case measure => simp [intOf]; omega
      · have h3' : ¬ (k : Int) < 3 := by omega
        go_wp2
        refine ⟨⟨k + 1, by omega, by go_num, ?_, HR.out, hbw, hw1⟩, by simp [intOf]; omega⟩
        rw [upTo_step s k 0 (by omega), upTo_step s k 1 (by omega), upTo_step s k 2 (by omega)]
        exact HK.out
    · obtain rfl : k = (parts s 47).length := by omega
      have K := HK.out
      rw [upTo_end, upTo_end, upTo_end] at K
      clear HK HR
      obtain ⟨k0, k1, k2, kf, kz0, kz1, kz2, kfz, ksz⟩ := K
      have hvz := vtxtSize (tvAt s 0) (tvAt s 1) (tvAt s 2)
      have hwz : w.heap.size < wr.heap.size := by omega
      go_wp2
      go_region_held3 (fun w' => w'.cell? ⟨w.heap.size + 1, 0, none⟩ = some (.int .i64 (tvAt s 0)) ∧ w'.cell? ⟨w.heap.size + 1, 1, none⟩ = some (.int .i64 (tvAt s 1)) ∧ w'.cell? ⟨w.heap.size + 1, 2, none⟩ = some (.int .i64 (tvAt s 2))) (simp [go_sem, *, World.cell?_alloc_some, World.cell?_setCell_far, Nat.lt_add_right, Nat.ne_of_gt]) (fail)
      go_wp2_with fail
      refine (svecText_any _ _ _ _).mono ?_
      rintro e w3 ⟨rfl, hb3⟩
      have hs3 := hb3.size
      simp at hs3
      have m0 := fun o => hb3.cell (p := ⟨wr.heap.size, o, none⟩) (by simp)
      have m1 := fun o => hb3.cell (p := ⟨w.heap.size, o, none⟩) (by simp; omega)
      have m2 := fun o => hb3.frozen (p := ⟨w.heap.size, o, none⟩) (by simp; omega)
      cases e1 : tvIs s
      · have hq2 : ((vtxtB (tvAt s 0) (tvAt s 1) (tvAt s 2)).toList == s.toList) = false := str_ne e1
        have E1 := Lib.hid e1
        clear e1
        go_wp2
        go_light
        rw [show tvecV s = V.zero from by simp [tvecV, E1.out]]
        rw [E1.out]
        refine bodyPost_ret (v := .tuple #[.agg #[.int .i64 0, .int .i64 0, .int .i64 0], .bool false]) (by simp [results, Try.results153, go_sem, V.zero, *]) rfl ⟨rfl, (by repeat (first | exact Below.refl _ _ | (refine bstep ?_ (below_alloc _ _)) | (refine bstep ?_ (by assumption)) | (refine Below.setCell ?_ (by simp <;> omega) _) | refine Below.drew ?_))⟩
      · have hq2 : ((vtxtB (tvAt s 0) (tvAt s 1) (tvAt s 2)).toList == s.toList) = true := str_eq e1
        have E1 := Lib.hid e1
        clear e1
        go_wp2
        go_light
        rw [show tvecV s = ⟨tvAt s 0, tvAt s 1, tvAt s 2⟩ from by simp [tvecV, E1.out, tvA, tvB, tvC]]
        rw [E1.out]
        refine bodyPost_ret (v := .tuple #[.agg #[.int .i64 (tvAt s 0), .int .i64 (tvAt s 1), .int .i64 (tvAt s 2)], .bool true]) (by simp [results, Try.results153, go_sem, *]) rfl ⟨rfl, (by repeat (first | exact Below.refl _ _ | (refine bstep ?_ (below_alloc _ _)) | (refine bstep ?_ (by assumption)) | (refine Below.setCell ?_ (by simp <;> omega) _) | refine Below.drew ?_))⟩
end Go.Proofs.Ytjnfdcojccgfoaa
