import Derived.Test.YtnphjhbfpoekpaaGreatLr0Pl
import Derived.Test.YtnphjhbfpoekpaaGreatA11Pl
import Derived.Test.YtnphjhbfpoekpaaGreatA22Pl
namespace Go.Proofs.YtnphjhbfpoekpaaGreat
set_option linter.unusedSimpArgs false
set_option linter.unusedVariables false
set_option linter.unnecessarySimpa false
open Go.RowKit
def En.cells (j : En) : List Value := [.int .i64 j.id, .int .i64 j.at_, .int .i64 j.why]
def eflat (js : List En) : List Value := js.flatMap En.cells
theorem eflat_len (js : List En) : (eflat js).length = js.length * 3 := by
 induction js with
 | nil => rfl
 | cons p ps ih => simp only [eflat, List.flatMap_cons, List.length_append] at ih ⊢; rw [ih]; simp [En.cells]; omega
theorem eflat_get (js : List En) (k i : Nat) (j : En) (hj : js[k]? = some j) (hi : i < 3) : (eflat js)[k * 3 + i]? = j.cells[i]? := by
 induction js generalizing k with
 | nil => simp at hj
 | cons p ps ih =>
  cases k with
  | zero =>
   simp at hj; subst hj
   simp only [eflat, List.flatMap_cons, Nat.zero_mul, Nat.zero_add]
   rw [List.getElem?_append_left (by simp [En.cells]; omega)]
  | succ k =>
   simp at hj
   simp only [eflat, List.flatMap_cons]
   rw [List.getElem?_append_right (by simp [En.cells]; omega)]
   have := ih k hj
   simp only [eflat] at this
   rw [← this]
   congr 1
   simp [En.cells]; omega
theorem Rd.elen {w : World} {A : Option Addr} {n : Nat} {js : List En} (h : Rd w A n 3 (eflat js)) : js.length = n := by
 have := h.1; rw [eflat_len] at this; omega
theorem Rd.en {w : World} {A : Option Addr} {n : Nat} {js : List En} (h : Rd w A n 3 (eflat js)) {k : Nat} (hk : k < n) : ∃ g j, A = some ⟨g, 0, none⟩ ∧ js[k]? = some j ∧
  w.cell? ⟨g, k * 3, none⟩ = some (.int .i64 j.id) ∧ w.cell? ⟨g, k * 3 + 1, none⟩ = some (.int .i64 j.at_) ∧ w.cell? ⟨g, k * 3 + 2, none⟩ = some (.int .i64 j.why) := by
 obtain ⟨g, rfl, hc⟩ := h.2 (by omega)
 have hl : k < js.length := by rw [h.elen]; exact hk
 have hq : js[k]? = some js[k] := zgh hl
 refine ⟨g, js[k], rfl, hq, ?_, ?_, ?_⟩
 ·exact hc _ _ (by have := eflat_get js k 0 _ hq (by omega); simpa [En.cells] using this)
 ·exact hc _ _ (by have := eflat_get js k 1 _ hq (by omega); simpa [En.cells] using this)
 ·exact hc _ _ (by have := eflat_get js k 2 _ hq (by omega); simpa [En.cells] using this)
def RdEn (w : World) (A : Option Addr) (n : Nat) (js : List En) : Prop :=
 js.length = n ∧ (0 < n → ∃ b off, A = some ⟨b, off, none⟩ ∧ b < w.heap.size ∧ ∀ (k : Nat) j, js[k]? = some j → ∀ (i : Nat) u, j.cells[i]? = some u → w.cell? ⟨b, off + k * 3 + i, none⟩ = some u)
theorem RdEn.below {w w' : World} {A : Option Addr} {n : Nat} {js : List En} (h : RdEn w A n js) (hb : Below w.heap.size w w') : RdEn w' A n js :=
 ⟨h.1, fun hn => by
  obtain ⟨b, off, rfl, hl, hc⟩ := h.2 hn
  exact ⟨b, off, rfl, Nat.lt_of_lt_of_le hl hb.size, fun k j hj i u hu => (hb.cell (p := ⟨b, _, none⟩) hl).trans (hc k j hj i u hu)⟩⟩
theorem infoEn : (Tryz.prog.info? 139).map (fun i => (i.zero, i.size, i.bytes)) = some (some (.agg #[.int .i64 0, .int .i64 0, .int .i64 0]), 3, 24) := by kernel_rfl
set_option maxHeartbeats 2000000 in
theorem eqEnd_any (x y z : Int) (w : World) :
  Calls Tryz.prog 171 #[.agg #[.int .i64 x, .int .i64 y, .int .i64 z], .agg #[.int .i64 x, .int .i64 y, .int .i64 z]] w fun e w' => e = .returned (.bool true) ∧ Below w.heap.size w w' := by
 go_enter Tryz.func171, Tryz.ntmps171
 go_wp2
 go_ret
 exact ⟨rfl, zAc (zAa _ _) (zAa _ _)⟩
set_option maxHeartbeats 8000000 in
theorem eqEndS_any (A A' : Option Addr) (n c c' : Nat) (es : List En) (w : World) (hn : n ≤ 1048577) (ha : Rd w A n 3 (eflat es)) (hb : Rd w A' n 3 (eflat es)) (hl : ∀ g, A = some ⟨g, 0, none⟩ → g < w.heap.size) (hl' : ∀ g, A' = some ⟨g, 0, none⟩ → g < w.heap.size) :
  Calls Tryz.prog 95 #[.slice A n c, .slice A' n c'] w fun e w' => e = .returned (.bool true) ∧ Below w.heap.size w w' := by
 have hm : n ≤ 9223372036854775807 := by omega
 clear hn
 have HA := Lib.hid ha
 have HB := Lib.hid hb
 have HL := Lib.hid hl
 have HL' := Lib.hid hl'
 clear ha hb hl hl'
 go_enter Tryz.func95, Tryz.ntmps95
 go_wp2
 go_loopw [5] (fun i wr => ∃ k : Nat, k ≤ n ∧ i = .int .i64 k ∧ Below w.heap.size w wr) (fun i _ => n - (intOf i).toNat)
 case atStart => exact ⟨0, Nat.zero_le _, rfl, Below.refl _ _⟩
 case round =>
  obtain ⟨k, hk, rfl, hbw⟩ := hrel
  by_cases hlt : k < n
  ·obtain ⟨g, q, rfl, hq, c0, c1, c2⟩ := HA.out.en hlt
   obtain ⟨g', q', rfl, hq', d0, d1, d2⟩ := HB.out.en hlt
   obtain rfl : q = q' := by rw [hq] at hq'; exact Option.some.inj hq'
   have hg := HL.out g rfl
   have hg' := HL'.out g' rfl
   have C0 := (hbw.cell (p := ⟨g, k * 3, none⟩) hg).trans c0
   have C1 := (hbw.cell (p := ⟨g, k * 3 + 1, none⟩) hg).trans c1
   have C2 := (hbw.cell (p := ⟨g, k * 3 + 2, none⟩) hg).trans c2
   have D0 := (hbw.cell (p := ⟨g', k * 3, none⟩) hg').trans d0
   have D1 := (hbw.cell (p := ⟨g', k * 3 + 1, none⟩) hg').trans d1
   have D2 := (hbw.cell (p := ⟨g', k * 3 + 2, none⟩) hg').trans d2
   have hgr : g < wr.heap.size := Nat.lt_of_lt_of_le hg hbw.size
   have hgr' : g' < wr.heap.size := Nat.lt_of_lt_of_le hg' hbw.size
   clear hq hq' c0 c1 c2 d0 d1 d2 HA HB HL HL'
   have hlt' : (k : Int) < n := by omega
   go_wp2
   go_region_held3 (fun w' => w'.cell? ⟨g, k * 3, none⟩ = some (.int .i64 q.id) ∧ w'.cell? ⟨g, k * 3 + 1, none⟩ = some (.int .i64 q.at_) ∧ w'.cell? ⟨g, k * 3 + 2, none⟩ = some (.int .i64 q.why) ∧ w'.cell? ⟨g', k * 3, none⟩ = some (.int .i64 q.id) ∧ w'.cell? ⟨g', k * 3 + 1, none⟩ = some (.int .i64 q.at_) ∧ w'.cell? ⟨g', k * 3 + 2, none⟩ = some (.int .i64 q.why)) (simp [go_sem, *, World.cell?_alloc_some, World.cell?_setCell_far, Nat.lt_add_right, Nat.ne_of_gt]) (first | (go_at_call 171; refine (eqEnd_any q.id q.at_ q.why _).mono ?_; rintro e w1 ⟨rfl, hb1⟩; have hk0 := fun o => hb1.cell (p := ⟨g, o, none⟩) (by simpa using hgr); have hk1 := fun o => hb1.cell (p := ⟨g', o, none⟩) (by simpa using hgr')))
   all_goals go_wp2
   all_goals exact ⟨⟨k + 1, by omega, by go_num, hbw.drew.trans (hb1.mono (by simpa using hbw.size))⟩, by simp [intOf]; omega⟩
  ·go_wp2
   go_ret
   exact ⟨rfl, hbw⟩
set_option maxHeartbeats 1000000 in
theorem markEndF (A : Option Addr) (n c lo : Nat) (k0 : Int) (w : World) (hn : n ≤ 1048577) (hk0 : 0 ≤ k0) (hk1 : k0 ≤ 2305843009213693952) (hw : Wr w lo A (n * 3) 139) :
  Calls Tryz.prog 108 #[.slice A n c, .int .i64 k0] w fun e w' => e = .returned (.int .i64 (k0 + 3 * (n : Int))) ∧ Rd w' A n 3 (imarks k0 (n * 3)) ∧ Fr (atB A) w w' := by
 have hm : n ≤ 9223372036854775807 := by omega
 have hkm : k0 + 3 * (n : Int) ≤ 9223372036854775800 := by omega
 have HW := Lib.hid hw
 clear hn hk1 hw
 go_enter Tryz.func108, Tryz.ntmps108
 go_wp2
 go_loopw [1, 5] (fun q i wr => ∃ k : Nat, k ≤ n ∧ i = .int .i64 k ∧ q = .int .i64 (k0 + 3 * (k : Int)) ∧ Fr (atB A) w wr ∧ (0 < n * 3 → ∃ g cur, A = some ⟨g, 0, none⟩ ∧ wr.heap[g]? = some (.cells cur 139 (0, 0)) ∧ n * 3 ≤ cur.size ∧ ∀ j, j < k * 3 → cur[j]? = some (.int .i64 (k0 + j)))) (fun _ i _ => n - (intOf i).toNat)
 case atStart =>
  refine ⟨0, Nat.zero_le _, rfl, by simp, Fr.refl _ _, fun h => ?_⟩
  obtain ⟨g, cur, hA, hg, hh, hs⟩ := HW.out h
  exact ⟨g, cur, hA, hh, hs, fun j hj => absurd hj (by omega)⟩
 case round =>
  obtain ⟨k, hk, rfl, rfl, hb, hcur⟩ := hrel
  by_cases hlt : k < n
  ·obtain ⟨g, cur, rfl, hh, hs, hm2⟩ := hcur (by omega)
   obtain ⟨o0, ho0⟩ := zAp (i := k * 3) hh (by omega)
   have hf0 := zAs (i := k * 3) hh
   obtain ⟨o1, ho1⟩ := zAp (i := k * 3 + 1) hh (by omega)
   have hf1 := zAs (i := k * 3 + 1) hh
   obtain ⟨o2, ho2⟩ := zAp (i := k * 3 + 2) hh (by omega)
   have hf2 := zAs (i := k * 3 + 2) hh
   have HM := Lib.hid hm2
   have HH := Lib.hid hh
   clear hm2 hh hcur
   have hlt' : (k : Int) < n := by omega
   have hlt2 : k0 + 3 * (k : Int) + 3 ≤ 9223372036854775807 := by omega
   have hlt3 : 0 ≤ k0 + 3 * (k : Int) := by omega
   go_wp2
   refine ⟨⟨k + 1, by omega, by go_num, congrArg (Value.int IntKind.i64) (by omega), (((hb.setCell (Or.inl ⟨0, rfl⟩) _).setCell (Or.inl ⟨0, rfl⟩) _).setCell (Or.inl ⟨0, rfl⟩) _), fun _ => ⟨g, _, rfl, (zAq (zAq (zAq HH.out))), ?_, ?_⟩⟩, by simp [intOf]; omega⟩
   ·simpa using hs
   ·intro j hj
    simp only [Array.getElem?_setIfInBounds, Array.size_setIfInBounds]
    have HM' := HM.out j
    repeat' split
    all_goals first
     | omega
     | exact HM' (by omega)
     | exact congrArg (fun z => some (Value.int IntKind.i64 z)) (by omega)
  ·obtain rfl : k = n := by omega
   go_wp2
   go_ret
   refine ⟨rfl, rd_of_heap (fun h => ?_) (by omega), hb⟩
   obtain ⟨g, cur, hA, hh, hs, hm2⟩ := hcur h
   exact ⟨g, cur, _, _, hA, hh, hm2⟩
set_option maxHeartbeats 1000000 in
theorem heldEnd_any (A : Option Addr) (n c : Nat) (k0 : Int) (w : World) (hn : n ≤ 1048577) (hk0 : 0 ≤ k0) (hk1 : k0 ≤ 2305843009213693952) (hr : Rd w A n 3 (imarks k0 (n * 3))) :
  Calls Tryz.prog 127 #[.slice A n c, .int .i64 k0] w fun e w' => e = .returned (.int .i64 (k0 + 3 * (n : Int))) ∧ w = w' := by
 have hm : n ≤ 9223372036854775807 := by omega
 have hkm : k0 + 3 * (n : Int) ≤ 9223372036854775800 := by omega
 have HR := Lib.hid hr
 clear hn hk1 hr
 go_enter Tryz.func127, Tryz.ntmps127
 go_wp2
 go_loop [1, 5] (fun q i => ∃ k : Nat, k ≤ n ∧ i = .int .i64 k ∧ q = .int .i64 (k0 + 3 * (k : Int))) (fun _ i => n - (intOf i).toNat)
 case atStart => exact ⟨0, Nat.zero_le _, rfl, by simp⟩
 case round =>
  obtain ⟨k, hk, rfl, rfl⟩ := hrel
  by_cases hlt : k < n
  ·obtain ⟨g, rfl, hc⟩ := HR.out.mk_at hlt
   have c0 : w.cell? ⟨g, k * 3, none⟩ = some (.int .i64 (k0 + 3 * (k : Int))) := (hc _ (by omega)).trans (congrArg (fun z => some (Value.int IntKind.i64 z)) (by omega))
   have c1 : w.cell? ⟨g, k * 3 + 1, none⟩ = some (.int .i64 (k0 + 3 * (k : Int) + 1)) := (hc _ (by omega)).trans (congrArg (fun z => some (Value.int IntKind.i64 z)) (by omega))
   have c2 : w.cell? ⟨g, k * 3 + 2, none⟩ = some (.int .i64 (k0 + 3 * (k : Int) + 1 + 1)) := (hc _ (by omega)).trans (congrArg (fun z => some (Value.int IntKind.i64 z)) (by omega))
   clear hc HR
   have hlt' : (k : Int) < n := by omega
   have hlt2 : k0 + 3 * (k : Int) + 3 ≤ 9223372036854775807 := by omega
   have hlt3 : 0 ≤ k0 + 3 * (k : Int) := by omega
   go_wp2
   exact ⟨⟨k + 1, by omega, by go_num, congrArg (Value.int IntKind.i64) (by omega)⟩, by simp [intOf]; omega⟩
  ·obtain rfl : k = n := by omega
   go_wp2
   go_ret
   exact ⟨rfl, rfl⟩
end Go.Proofs.YtnphjhbfpoekpaaGreat
