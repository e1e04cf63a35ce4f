/-
  Rows of what is held that came in, and their copies.
-/
import Derived.Test.YtnphjhbfpoekpaaGreatHfPe
import Derived.Test.YtnphjhbfpoekpaaGreatA8Pe
namespace Go.Proofs.YtnphjhbfpoekpaaGreat
set_option linter.unusedSimpArgs false
set_option linter.unusedVariables false
set_option linter.unnecessarySimpa false
open Go.RowKit

def setL : List Value → Nat → List Value → List Value
  | l, _, [] => l
  | l, i, x :: xs => setL (l.set i x) (i + 1) xs
theorem take_setL : ∀ (xs l : List Value) (i : Nat), i + xs.length ≤ l.length → (setL l i xs).take (i + xs.length) = l.take i ++ xs
  | [], l, i, _ => by simp [setL]
  | x :: xs, l, i, h => by
    simp only [List.length_cons] at h
    have e : (l.set i x).take (i + 1) = l.take i ++ [x] := by
      apply List.ext_getElem?
      intro k
      rw [List.getElem?_take, List.getElem?_append, List.length_take, Nat.min_eq_left (by omega : i ≤ l.length), List.getElem?_set]
      by_cases h1 : k < i
      · rw [if_pos (by omega), if_pos h1, if_neg (by omega), List.getElem?_take, if_pos h1]
      · rw [if_neg h1]
        by_cases h2 : k = i
        · subst h2; rw [if_pos (by omega), if_pos rfl, if_pos (by omega)]; simp
        · rw [if_neg (by omega)]
          rw [List.getElem?_eq_none (by simp; omega)]
    rw [setL, List.length_cons, show i + (xs.length + 1) = i + 1 + xs.length by omega, take_setL xs _ _ (by rw [List.length_set]; omega), e, List.append_assoc]
    rfl
/-- Such a row that came in. -/
def RdHI (w : World) (A : Option Addr) (n : Nat) (hs : List Hd) : Prop :=
  hs.length = n ∧ (∀ p ∈ hs, p.nd.length ≤ maxLen) ∧ (0 < n → ∃ b off, A = some ⟨b, off, none⟩ ∧ b < w.heap.size ∧ ∀ (k : Nat) p, hs[k]? = some p → ∃ B c, (w.cell? ⟨b, off + k * 3, none⟩ = some (.int .i64 p.id) ∧ w.cell? ⟨b, off + k * 3 + 1, none⟩ = some (.int .i64 p.at_) ∧ w.cell? ⟨b, off + k * 3 + 2, none⟩ = some (.slice B p.nd.length c)) ∧ RdI w B p.nd.length p.nd)
theorem RdHI.below {w w' : World} {A : Option Addr} {n : Nat} {hs : List Hd} (h : RdHI w A n hs) (hb : Below w.heap.size w w') : RdHI w' A n hs :=
  ⟨h.1, h.2.1, fun hn => by
    obtain ⟨b, off, rfl, hl, hc⟩ := h.2.2 hn
    exact ⟨b, off, rfl, Nat.lt_of_lt_of_le hl hb.size, fun k p hp => by
      obtain ⟨B, c, ⟨h0, h1, h2⟩, hI⟩ := hc k p hp
      exact ⟨B, c, ⟨(hb.cell (p := ⟨b, _, none⟩) hl).trans h0, (hb.cell (p := ⟨b, _, none⟩) hl).trans h1, (hb.cell (p := ⟨b, _, none⟩) hl).trans h2⟩, hI.below hb⟩⟩⟩
theorem infoHR : (Tryz.prog.info? 41).map (fun i => (i.zero, i.size, i.bytes)) = some (some (.agg #[.int .i64 0, .int .i64 0, .slice none 0 0]), 3, 40) := by kernel_rfl

set_option maxHeartbeats 1000000 in
theorem szHeld_any (x0 x1 : Int) (A : Option Addr) (n c : Nat) (left : Int) (w : World) (h0 : 0 ≤ left) (h1 : left ≤ 1048576) (hn : n ≤ maxLen) :
    Calls Tryz.prog 70 #[.agg #[.int .i64 x0, .int .i64 x1, .slice A n c], .int .i64 left] w fun e w' => e = .returned (.int .i64 (szOf left n)) ∧ Below w.heap.size w w' := by
  have HN := Lib.hid hn
  obtain ⟨z, hz⟩ : ∃ z, z = szOf left n := ⟨_, rfl⟩
  have hz1 : z ≤ 1048576 ∧ (z < 0 → z = -1) := by rw [hz]; unfold szOf; split <;> omega
  have HZ := Lib.hid hz
  clear hn hz
  go_enter Tryz.func70, Tryz.ntmps70
  go_wp2_with fail
  refine (szIntS_any A n c left _ h0 (by omega) HN.out).mono ?_
  rintro e w1 ⟨rfl, rfl⟩
  rw [← HZ.out]
  by_cases hz0 : z < 0
  · have hz2 := hz1.2 hz0
    go_wp2
    go_ret
    exact ⟨ret_int (hz2.symm.trans HZ.out), (by repeat (first | exact Below.refl _ _ | assumption | (refine bstep ?_ (below_drewN _ _)) | exact bstep (by assumption) (by assumption) | (refine bstep ?_ (below_alloc _ _)) | (refine bstep ?_ (by assumption)) | (refine Below.setCell ?_ (by simp <;> omega) _) | refine Below.drew ?_))⟩
  · go_wp2
    go_ret
    exact ⟨ret_int HZ.out, (by repeat (first | exact Below.refl _ _ | assumption | (refine bstep ?_ (below_drewN _ _)) | exact bstep (by assumption) (by assumption) | (refine bstep ?_ (below_alloc _ _)) | (refine bstep ?_ (by assumption)) | (refine Below.setCell ?_ (by simp <;> omega) _) | refine Below.drew ?_))⟩

set_option maxHeartbeats 2000000 in
theorem szHeldS_any (A : Option Addr) (n c : Nat) (left : Int) (hs : List Hd) (w : World) (h0 : 0 ≤ left) (h1 : left ≤ 1048576) (hn : n ≤ maxLen) (hr : RdHI w A n hs) :
    Calls Tryz.prog 17 #[.slice A n c, .int .i64 left] w fun e w' => ∃ z : Int, e = .returned (.int .i64 z) ∧ -1 ≤ z ∧ z ≤ left ∧ (0 ≤ z → n ≤ 1048576 ∧ ∀ p ∈ hs, p.nd.length ≤ 1048576) ∧ Below w.heap.size w w' := by
  have hml : n ≤ 9223372036854775807 := by unfold maxLen at hn; omega
  have H0 := Lib.hid h0
  have H1 := Lib.hid h1
  have HR := Lib.hid hr
  have hlr : left - n ≤ 9223372036854775807 := by omega
  have hlr2 : -9223372036854775808 ≤ left - n := by omega
  by_cases h : (n : Int) ≤ left
  · have h' : ¬ (left - n < 0) := by omega
    have HH := Lib.hid h
    clear h0 h1 hn hr h
    go_enter Tryz.func17, Tryz.ntmps17
    go_wp2
    go_loopw [1, 5] (fun q i wr => ∃ (k : Nat) (z : Int), k ≤ n ∧ i = .int .i64 k ∧ q = .int .i64 z ∧ 0 ≤ z ∧ z ≤ left ∧ Below w.heap.size w wr ∧ Hid (∀ j p, j < k → hs[j]? = some p → p.nd.length ≤ 1048576)) (fun _ i _ => n - (intOf i).toNat)
    case atStart => exact ⟨0, left - n, Nat.zero_le _, rfl, rfl, by omega, by omega, Below.refl _ _, Lib.hid (fun j ps hj => absurd hj (by omega))⟩
    case round =>
      obtain ⟨k, z, hk, rfl, rfl, hz0, hz1, hbw, hall⟩ := hrel
      by_cases hlt : k < n
      · obtain ⟨b, off, rfl, hbl, hc⟩ := HR.out.2.2 (by omega)
        have hl : k < hs.length := by have := HR.out.1; omega
        have hq : hs[k]? = some hs[k] := List.getElem?_eq_getElem hl
        have hle : hs[k].nd.length ≤ maxLen := HR.out.2.1 _ (List.getElem_mem hl)
        generalize hs[k] = p at hq hle
        obtain ⟨B, c', ⟨d0, d1, d2⟩, hre⟩ := hc k p hq
        have c0 := (hbw.cell (p := ⟨b, off + k * 3, none⟩) hbl).trans d0
        have c1 := (hbw.cell (p := ⟨b, off + k * 3 + 1, none⟩) hbl).trans d1
        have c2 := (hbw.cell (p := ⟨b, off + k * 3 + 2, none⟩) hbl).trans d2
        have HQ := Lib.hid hq
        have HLE := Lib.hid hle
        have HB := Lib.hid hbw
        have HZ0 := Lib.hid hz0
        have HZ1 := Lib.hid hz1
        clear hc d0 d1 d2 hq hle hre hbw
        have hlt' : (k : Int) < n := by omega
        by_cases hs9 : 0 ≤ szOf z p.nd.length
        · obtain ⟨hs1, hs2⟩ := szOf_pos hs9
          have hs3 : ¬ (szOf z p.nd.length < 0) := by omega
          have HS := Lib.hid hs2
          have HS1 := Lib.hid hs1
          have HS0 := Lib.hid hs9
          clear hs9 hs1 hs2 hz0 hz1
          go_wp2_with fail
          refine (szHeld_any _ _ B p.nd.length c' z _ HZ0.out (by have := HZ1.out; have := H1.out; omega) HLE.out).mono ?_
          rintro e w1 ⟨rfl, hb1⟩
          generalize hsg : szOf z p.nd.length = z' at *
          go_wp2
          refine ⟨⟨k + 1, z', by omega, by go_num, rfl, HS0.out, ?_, (by repeat (first | exact Below.refl _ _ | assumption | (refine bstep ?_ (below_drewN _ _)) | exact bstep (by assumption) (by assumption) | (refine bstep ?_ (below_alloc _ _)) | (refine bstep ?_ (by assumption)) | (refine Below.setCell ?_ (by simp <;> omega) _) | refine Below.drew ?_)), Lib.hid (fun j ps' hj hps => ?_)⟩, by simp [intOf]; omega⟩
          · have := HS.out; have := HZ1.out; omega
          · rcases Nat.lt_or_ge j k with h | h
            · exact hall.out j ps' h hps
            · have : j = k := by omega
              rw [this, HQ.out] at hps
              injection hps with hps
              rw [← hps]
              have := HS1.out; have := HZ1.out; have := H1.out; omega
        · have hs2 := szOf_neg hs9
          have HS := Lib.hid hs2
          clear hs9 hs2 hz0 hz1
          go_wp2_with fail
          refine (szHeld_any _ _ B p.nd.length c' z _ HZ0.out (by have := HZ1.out; have := H1.out; omega) HLE.out).mono ?_
          rintro e w1 ⟨rfl, hb1⟩
          rw [HS.out]
          go_wp2
          go_ret
          exact ⟨_, rfl, by omega, by have := H0.out; omega, fun h => absurd h (by omega), (by repeat (first | exact Below.refl _ _ | assumption | (refine bstep ?_ (below_drewN _ _)) | exact bstep (by assumption) (by assumption) | (refine bstep ?_ (below_alloc _ _)) | (refine bstep ?_ (by assumption)) | (refine Below.setCell ?_ (by simp <;> omega) _) | refine Below.drew ?_))⟩
      · have hk9 : k = n := by omega
        subst hk9
        go_wp2
        go_ret
        refine ⟨_, rfl, by omega, hz1, fun _ => ⟨?_, fun p hp => ?_⟩, hbw⟩
        · have := HH.out; have := H1.out; omega
        · obtain ⟨j, hj, rfl⟩ := List.getElem_of_mem hp
          exact hall.out j _ (by have := HR.out.1; omega) (List.getElem?_eq_getElem hj)
  · have h' : left - n < 0 := by omega
    clear h1 h0 hr h
    go_enter Tryz.func17, Tryz.ntmps17
    go_wp2
    go_ret
    exact ⟨_, rfl, by omega, by have := H0.out; omega, fun h => absurd h (by omega), Below.refl _ _⟩

set_option maxHeartbeats 4000000 in
theorem toHeld_any (x0 x1 : Int) (A : Option Addr) (n c : Nat) (zs : List Int) (w : World) (hn : n ≤ 1048576) (hr : RdI w A n zs) :
    Calls Tryz.prog 76 #[.agg #[.int .i64 x0, .int .i64 x1, .slice A n c]] w fun e w' => ∃ v, e = .returned (.agg #[.int .i64 x0, .int .i64 x1, v]) ∧ w'.ownsRow w.heap.size 3 1 v n (ints zs) ∧ Below w.heap.size w w' := by
  have HN := Lib.hid hn
  have HR := Lib.hid hr
  clear hn hr
  go_enter Tryz.func76, Tryz.ntmps76
  go_wp2_with fail
  refine (toIntS_any A n c zs _ HN.out (HR.out.below (by repeat (first | exact Below.refl _ _ | assumption | (refine bstep ?_ (below_drewN _ _)) | exact bstep (by assumption) (by assumption) | (refine bstep ?_ (below_alloc _ _)) | (refine bstep ?_ (by assumption)) | (refine Below.setCell ?_ (by simp <;> omega) _) | refine Below.drew ?_)))).mono ?_
  rintro e w1 ⟨v, rfl, own, hb1⟩
  obtain ⟨A', c', rfl, _⟩ := own_rd own
  have hs1 := hb1.size
  (try simp at hs1)
  (try (have hk10 := fun o => hb1.cell (p := ⟨w.heap.size, o, none⟩) (by first | omega | (simp <;> omega)); have hg10 := fun o => hb1.frozen (p := ⟨w.heap.size, o, none⟩) (by first | omega | (simp <;> omega)); have hy10 : w.heap.size < w1.heap.size := (by omega)))
  (try (have hk11 := fun o => hb1.cell (p := ⟨w.heap.size + 1, o, none⟩) (by first | omega | (simp <;> omega)); have hg11 := fun o => hb1.frozen (p := ⟨w.heap.size + 1, o, none⟩) (by first | omega | (simp <;> omega)); have hy11 : w.heap.size + 1 < w1.heap.size := (by omega)))
  (try (have hk12 := fun o => hb1.cell (p := ⟨w.heap.size + 1 + 1, o, none⟩) (by first | omega | (simp <;> omega)); have hg12 := fun o => hb1.frozen (p := ⟨w.heap.size + 1 + 1, o, none⟩) (by first | omega | (simp <;> omega)); have hy12 : w.heap.size + 1 + 1 < w1.heap.size := (by omega)))
  obtain ⟨lo9, hlo9, OW9⟩ : ∃ lo9, lo9 = _ ∧ Hid (w1.ownsRow lo9 3 1 (.slice A' n c') n (ints zs)) := ⟨_, rfl, Lib.hid own⟩
  (try simp at hlo9)
  clear own
  go_wp2
  go_light
  refine bodyPost_ret (v := .agg #[.int .i64 x0, .int .i64 x1, .slice A' n c']) (by simp [results, Tryz.results76, go_sem, *]) rfl ⟨_, rfl, ?_, (by repeat (first | exact Below.refl _ _ | assumption | (refine bstep ?_ (below_drewN _ _)) | exact bstep (by assumption) (by assumption) | (refine bstep ?_ (below_alloc _ _)) | (refine bstep ?_ (by assumption)) | (refine Below.setCell ?_ (by simp <;> omega) _) | refine Below.drew ?_))⟩
  refine own_mono (lo := lo9) ?_ (by omega)
  repeat (first | exact OW9.out | (refine ownsRow_setCell_below ?_ (by first | omega | (show _ < lo9; omega) | (simp <;> omega)) _) | (refine own_bel ?_ (below_alloc _ _)))

set_option maxHeartbeats 8000000 in
set_option maxRecDepth 20000 in
theorem toHeldS_any (A : Option Addr) (n c : Nat) (hs : List Hd) (w : World) (hn : n ≤ 1048576) (hm : ∀ p ∈ hs, p.nd.length ≤ 1048576) (hr : RdHI w A n hs) :
    Calls Tryz.prog 21 #[.slice A n c] w fun e w' => ∃ v ss, e = .returned v ∧ OwnH w' w.heap.size v n ss hs ∧ Below w.heap.size w w' := by
  obtain ⟨i0, hi, hz0, hz1, hz2⟩ := info_parts infoHR
  have hn9 : n ≤ 9223372036854775807 := by omega
  have HN := Lib.hid hn
  have HR := Lib.hid hr
  have HM := Lib.hid hm
  clear hn hr hm
  go_enter Tryz.func21, Tryz.ntmps21
  go_wp2_with (at_make; refine wpList_make_full _ rfl _ _ 37 rfl w.heap.size 41 i0 (.agg #[.int .i64 0, .int .i64 0, .slice none 0 0]) 3 Tryz.underlying37 hi hz0 hz1 .i64 .i64 _ _ n rfl rfl rfl rfl (by rw [hz2]; have := HN.out; omega) (by unfold maxLen; have := HN.out; omega) (Nat.le_refl _) ?_; intro w0 hown0 hgrow0)
  have hb0 : Below w.heap.size w w0 := (Below.refl _ _).grown hgrow0 (Nat.le_refl _) (fun k hk => by cases hk)
  obtain ⟨cur0, hh0, hsz0⟩ : ∃ cur, w0.heap[w.heap.size]? = some (.cells cur 41 (0, 0)) ∧ cur.size = n * 3 := by
    rcases hown0.2 with ⟨h, _⟩ | ⟨g, cap, cur, hv, _, hh, h1, h2, h3, _⟩
    · cases h
    · injection hv with a1 a2 a3
      injection a1 with a1
      injection a1 with a1
      subst a1 a3
      exact ⟨cur, hh, h3⟩
  clear hown0 hgrow0 hi hz0 hz1 hz2
  go_wp2
  go_loopw [4] (fun i wr => ∃ k : Nat, k ≤ n ∧ i = .int .i64 k ∧ Below w.heap.size w wr ∧ ∃ cur ss, wr.heap[w.heap.size]? = some (.cells cur 41 (0, 0)) ∧ cur.size = n * 3 ∧ Hid (ss.length = k ∧ cur.toList.take (k * 3) = hcells (hs.take k) ss ∧ (∀ (j : Nat) x p, ss[j]? = some x → hs[j]? = some p → wr.ownsRow w.heap.size 3 1 x p.nd.length (ints p.nd)) ∧ ∀ (i j : Nat) x y, i < j → ss[i]? = some x → ss[j]? = some y → ∀ b, x.ownBlock = some b → y.ownBlock ≠ some b)) (fun i _ => n - (intOf i).toNat)
  case atStart => exact ⟨0, Nat.zero_le _, rfl, hb0, cur0, [], hh0, hsz0, Lib.hid ⟨rfl, by simp [hcells], fun j x p h => by simp at h, fun i j x y _ h => by simp at h⟩⟩
  case round =>
    obtain ⟨k, hk, rfl, hbw, cur, ss, hh, hsz, hm2⟩ := hrel
    clear hb0 hh0 hsz0
    by_cases hlt : k < n
    · obtain ⟨b, off, rfl, hbl, hc⟩ := HR.out.2.2 (by omega)
      have hl : k < hs.length := by have := HR.out.1; omega
      have hq : hs[k]? = some hs[k] := List.getElem?_eq_getElem hl
      have hle : hs[k].nd.length ≤ 1048576 := HM.out _ (List.getElem_mem hl)
      generalize hs[k] = p at hq hle
      obtain ⟨B, c', ⟨d0, d1, d2⟩, hre⟩ := hc k p hq
      have c0 := (hbw.cell (p := ⟨b, off + k * 3, none⟩) hbl).trans d0
      have c1 := (hbw.cell (p := ⟨b, off + k * 3 + 1, none⟩) hbl).trans d1
      have c2 := (hbw.cell (p := ⟨b, off + k * 3 + 2, none⟩) hbl).trans d2
      have HQ := Lib.hid hq
      have HLE := Lib.hid hle
      have HH := Lib.hid hh
      have HZ := Lib.hid hsz
      have HE := Lib.hid (hre.below hbw)
      clear hc d0 d1 d2 hq hle hre hh hsz
      have hlt' : (k : Int) < n := by omega
      go_wp2_with fail
      refine (toHeld_any p.id p.at_ B p.nd.length c' p.nd _ HLE.out HE.out).mono ?_
      rintro e w1 ⟨x, rfl, own1, hb1⟩
      obtain ⟨B1, cB, rfl, rd1⟩ := own_rd own1
      clear rd1
      have hh1 : w1.heap[w.heap.size]? = some (.cells cur 41 (0, 0)) := (hb1.block _ (heap_lt HH.out)).trans HH.out
      obtain ⟨o0, ho0⟩ := cell_of_heap (i := k * 3) hh1 (by have := HZ.out; omega)
      have hf0 := frozen_of_heap (i := k * 3) hh1
      obtain ⟨o1, ho1⟩ := cell_of_heap (i := k * 3 + 1) hh1 (by have := HZ.out; omega)
      have hf1 := frozen_of_heap (i := k * 3 + 1) hh1
      obtain ⟨o2, ho2⟩ := cell_of_heap (i := k * 3 + 2) hh1 (by have := HZ.out; omega)
      have hf2 := frozen_of_heap (i := k * 3 + 2) hh1
      have HH1 := Lib.hid hh1
      have OW1 := Lib.hid own1
      clear hh1 own1 c0 c1 c2
      go_wp2
      have hne : ∀ b', (Value.slice B1 p.nd.length cB).ownBlock = some b' → b' ≠ w.heap.size := own_ne OW1.out HH1.out (by decide)
      have hlw := heap_lt HH.out
      obtain ⟨m1, m2, m3, m4⟩ := hm2.out
      refine ⟨⟨k + 1, by omega, by go_num, (((bstep hbw hb1).setCell (Nat.le_refl _) _).setCell (Nat.le_refl _) _).setCell (Nat.le_refl _) _, _, ss ++ [.slice B1 p.nd.length cB], heap_set (heap_set (heap_set (HH1.out))), by simpa using HZ.out, Lib.hid ⟨by simp [m1], ?_, fun j y p' hy hp' => ?_, fun i j y z hij hy hz b' hyb hzb => ?_⟩⟩, by simp [intOf]; omega⟩
      · rw [take_snoc' HQ.out, hcells_app (by rw [List.length_take, m1]; have := HR.out.1; omega), ← m2]
        have h9 := take_setL [.int .i64 p.id, .int .i64 p.at_, Value.slice B1 p.nd.length cB] cur.toList (k * 3) (by simp; have := HZ.out; omega)
        rw [← h9]
        simp only [Array.toList_setIfInBounds, setL, List.length_cons, List.length_nil, Nat.add_assoc, Nat.add_mul, Nat.one_mul, Nat.reduceAdd]
      · by_cases hj : j < ss.length
        · rw [List.getElem?_append_left hj] at hy
          have o1 := m3 j y p' hy hp'
          exact own_set (own_set (own_set (own_bel o1 hb1) (own_ne o1 HH.out (by decide)) _) (own_ne o1 HH.out (by decide)) _) (own_ne o1 HH.out (by decide)) _
        · rw [List.getElem?_append_right (by omega)] at hy
          have hj2 : j = k := by have := (List.getElem?_eq_some_iff.1 hy).1; simp at this; omega
          subst hj2
          rw [m1, Nat.sub_self] at hy
          simp at hy
          subst hy
          rw [HQ.out] at hp'
          injection hp' with hp'
          subst hp'
          exact own_mono (own_set (own_set (own_set (OW1.out) (hne) _) (hne) _) (hne) _) (by omega)
      · have hj3 := (List.getElem?_eq_some_iff.1 hz).1
        simp at hj3
        rw [List.getElem?_append_left (by omega)] at hy
        by_cases hj : j < ss.length
        · rw [List.getElem?_append_left hj] at hz
          exact m4 i j y z hij hy hz b' hyb hzb
        · rw [List.getElem?_append_right (by omega)] at hz
          have h9 : j - ss.length = 0 := by omega
          rw [h9] at hz
          simp at hz
          subst hz
          obtain ⟨p', hp'⟩ : ∃ p', hs[i]? = some p' := ⟨_, List.getElem?_eq_getElem (show i < hs.length by have := HR.out.1; omega)⟩
          have o1 := own_lt (m3 i y p' hy hp') b' hyb
          have o2 := own_ge OW1.out b' hzb
          omega
    · have hk9 : k = n := by omega
      subst hk9
      have hlen := HR.out.1
      obtain ⟨m1, m2, m3, m4⟩ := hm2.out
      have hO : OwnH wr w.heap.size (.slice (some ⟨w.heap.size, 0, none⟩) k k) k ss hs := by
        have m5 : cur.toList.take (k * 3) = hcells hs ss := by rw [m2, List.take_of_length_le (by omega)]
        clear m2
        refine ⟨⟨by rw [← m5, List.length_take]; simp; omega, Or.inr ⟨w.heap.size, k, cur, rfl, Nat.le_refl _, hh, Nat.le_refl _, Nat.le_trans HN.out (by decide), by simpa using hsz, m5⟩⟩, hlen, m1, fun j x p hx hp => ⟨HM.out _ (List.mem_of_getElem? hp), m3 j x p hx hp⟩, m4⟩
      have HO := Lib.hid hO
      have HB := Lib.hid hbw
      clear hO hbw hh hsz hm2
      go_wp2
      go_ret
      exact ⟨_, _, rfl, HO.out, HB.out⟩
end Go.Proofs.YtnphjhbfpoekpaaGreat
