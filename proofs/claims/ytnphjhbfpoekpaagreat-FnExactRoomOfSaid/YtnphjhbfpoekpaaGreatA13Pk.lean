import Derived.Test.YtnphjhbfpoekpaaGreatA6Pk
import Derived.Test.YtnphjhbfpoekpaaGreatA5Pk
import Derived.Test.YtnphjhbfpoekpaaGreatA3Pk
import Derived.Test.YtnphjhbfpoekpaaGreatA7Pk
import Derived.Test.YtnphjhbfpoekpaaGreatA9Pk
import Derived.Test.YtnphjhbfpoekpaaGreatA4Pk
namespace Go.Proofs.YtnphjhbfpoekpaaGreat
set_option linter.unusedSimpArgs false
set_option linter.unusedVariables false
set_option linter.unnecessarySimpa false
open Go.RowKit
def hasZ (zs : List Int) (x : Int) : Bool := zs.any fun y => y == x
theorem hasZ_iff {zs : List Int} {x : Int} : hasZ zs x = true ↔ x ∈ zs := by
 unfold hasZ; rw [List.any_eq_true]; simp
theorem hasZ_at {zs : List Int} {x : Int} {k : Nat} (h : zs[k]? = some x) : hasZ zs x = true := hasZ_iff.2 (List.mem_of_getElem? h)
theorem hasZ_none {zs : List Int} {x : Int} {n : Nat} (hn : zs.length = n) (h : ∀ j y, j < n → zs[j]? = some y → y ≠ x) : hasZ zs x = false := by
 cases hh : hasZ zs x with
 | false => rfl
 | true =>
  obtain ⟨j, hj, e⟩ := List.getElem_of_mem (hasZ_iff.1 hh)
  exact absurd e (h j _ (by omega) (zgh hj))
set_option maxHeartbeats 1000000 in
theorem shas_any (A : Option Addr) (n c : Nat) (zs : List Int) (x : Int) (w : World) (hn : n ≤ 1048577) (hr : Rd w A n 1 (ints zs)) :
  Calls Tryz.prog 161 #[.slice A n c, .int .i64 x] w fun e w' => e = .returned (.bool (hasZ zs x)) ∧ w = w' := by
 have hpl := hr.ilen
 have hm : n ≤ 9223372036854775807 := by omega
 have HR := Lib.hid hr
 have HP := Lib.hid hpl
 clear hn hr hpl
 go_enter Tryz.func161, Tryz.ntmps161
 go_wp2
 go_loop [9] (fun i => ∃ k : Nat, k ≤ n ∧ i = .int .i64 k ∧ Hid (∀ j y, j < k → zs[j]? = some y → y ≠ x)) (fun i => n - (intOf i).toNat)
 case atStart => exact ⟨0, Nat.zero_le _, rfl, Lib.hid fun j y hj => absurd hj (by omega)⟩
 case round =>
  obtain ⟨k, hk, rfl, hall⟩ := hrel
  by_cases hlt : k < n
  ·obtain ⟨g, z, rfl, hz, d0⟩ := HR.out.int hlt
   have HZ := Lib.hid hz
   have hlt' : (k : Int) < n := by omega
   clear hz
   by_cases he : z = x
   ·have HF := Lib.hid (hasZ_at (he ▸ HZ.out))
    have he' : (z == x) = true := by simp [he]
    have he2 : (x == z) = true := by simp [he]
    clear he
    go_wp2
    go_ret
    exact ⟨zAl HF.out.symm, rfl⟩
   ·have he' : (z == x) = false := by simp [he]
    have he2 : (x == z) = false := by simp; exact fun e => he e.symm
    have HE := Lib.hid he
    clear he
    go_wp2
    refine ⟨⟨k + 1, by omega, by go_num, Lib.hid fun j y hj hy => ?_⟩, by simp [intOf]; omega⟩
    by_cases hjk : j < k
    ·exact hall.out j y hjk hy
    ·have : j = k := by omega
     subst this
     rw [HZ.out] at hy
     rw [← Option.some.inj hy]; exact HE.out
  ·have hk9 : k = n := by omega
   subst hk9
   have HF := Lib.hid (hasZ_none HP.out hall.out)
   go_wp2
   go_ret
   exact ⟨zAl HF.out.symm, rfl⟩
set_option maxHeartbeats 1000000 in
theorem index_any (A : Option Addr) (n c : Nat) (zs : List Int) (x : Int) (w : World) (hn : n ≤ 1048577) (hr : Rd w A n 1 (ints zs)) :
  Calls Tryz.prog 211 #[.slice A n c, .int .i64 x] w fun e w' => (∃ i : Int, e = .returned (.int .i64 i) ∧ (0 ≤ i ↔ hasZ zs x = true)) ∧ w = w' := by
 have hpl := hr.ilen
 have hm : n ≤ 9223372036854775807 := by omega
 have HR := Lib.hid hr
 have HP := Lib.hid hpl
 clear hn hr hpl
 go_enter Tryz.func211, Tryz.ntmps211
 go_wp2
 go_loop [5, 8] (fun _ i => ∃ k : Nat, k ≤ n ∧ i = .int .i64 k ∧ Hid (∀ j y, j < k → zs[j]? = some y → y ≠ x)) (fun _ i => n - (intOf i).toNat)
 case atStart => exact ⟨0, Nat.zero_le _, rfl, Lib.hid fun j y hj => absurd hj (by omega)⟩
 case round =>
  obtain ⟨k, hk, rfl, hall⟩ := hrel
  by_cases hlt : k < n
  ·obtain ⟨g, z, rfl, hz, d0⟩ := HR.out.int hlt
   have HZ := Lib.hid hz
   have hlt' : (k : Int) < n := by omega
   clear hz
   by_cases he : z = x
   ·have HF := Lib.hid (hasZ_at (he ▸ HZ.out))
    have he' : (z == x) = true := by simp [he]
    have he2 : (x == z) = true := by simp [he]
    clear he
    go_wp2
    go_ret
    exact ⟨⟨_, rfl, fun _ => HF.out, fun _ => by omega⟩, rfl⟩
   ·have he' : (z == x) = false := by simp [he]
    have he2 : (x == z) = false := by simp; exact fun e => he e.symm
    have HE := Lib.hid he
    clear he
    go_wp2
    refine ⟨⟨k + 1, by omega, by go_num, Lib.hid fun j y hj hy => ?_⟩, by simp [intOf]; omega⟩
    by_cases hjk : j < k
    ·exact hall.out j y hjk hy
    ·have : j = k := by omega
     subst this
     rw [HZ.out] at hy
     rw [← Option.some.inj hy]; exact HE.out
  ·have hk9 : k = n := by omega
   subst hk9
   have HF := Lib.hid (hasZ_none HP.out hall.out)
   go_wp2
   go_ret
   exact ⟨⟨_, rfl, fun h => absurd h (by decide), fun h => by rw [HF.out] at h; cases h⟩, rfl⟩
set_option maxHeartbeats 1000000 in
theorem contains_any (A : Option Addr) (n c : Nat) (zs : List Int) (x : Int) (w : World) (hn : n ≤ 1048577) (hr : Rd w A n 1 (ints zs)) :
  Calls Tryz.prog 168 #[.slice A n c, .int .i64 x] w fun e w' => e = .returned (.bool (hasZ zs x)) ∧ w = w' := by
 have HN := Lib.hid hn
 have HR := Lib.hid hr
 clear hn hr
 go_enter Tryz.func168, Tryz.ntmps168
 go_wp2_with fail
 refine (index_any A n c zs x _ HN.out HR.out).mono ?_
 rintro e w1 ⟨⟨i, rfl, hi⟩, rfl⟩
 have HI := Lib.hid hi
 clear hi
 cases hh : hasZ zs x
 ·have h0 : i < 0 := by
   by_cases h : 0 ≤ i
   ·rw [HI.out.1 h] at hh; cases hh
   ·omega
  go_wp2
  go_ret
  exact ⟨zAl (by rw [hh]; try (simpa using h0)), rfl⟩
 ·have h0 : 0 ≤ i := HI.out.2 hh
  go_wp2
  go_ret
  exact ⟨zAl (by rw [hh]; try (simpa using h0)), rfl⟩
theorem inNodes_all {ns : List Q} {nd : List Int} {k : Nat} (hk : nd.length = k) (h : ∀ j x, j < k → nd[j]? = some x → 0 ≤ x ∧ x < ns.length) : inNodes ns nd = true := inNodes_iff.2 fun x hx => by
 obtain ⟨j, hj, rfl⟩ := List.getElem_of_mem hx
 exact h j _ (by omega) (zgh hj)
theorem inNodes_no {ns : List Q} {nd : List Int} {j : Nat} {x : Int} (hx : nd[j]? = some x) (h : ¬ (0 ≤ x ∧ x < ns.length)) : inNodes ns nd = false := by
 cases hh : inNodes ns nd with
 | false => rfl
 | true => exact absurd (inNodes_iff.1 hh x (List.mem_of_getElem? hx)) h
set_option maxHeartbeats 2000000 in
theorem areNodes_any (A B : Option Addr) (n c m d : Nat) (ps : List Int) (ns : List Q) (D : Option Addr) (k e : Nat) (nd : List Int) (w : World) (hn : n ≤ 1048576) (hm : m ≤ 1048576) (hr : Rd w A n 1 (ints ps)) (hq : Rd w B m 4 (flat ns)) (hl : ∀ g, A = some ⟨g, 0, none⟩ → g < w.heap.size) (hl2 : ∀ g, B = some ⟨g, 0, none⟩ → g < w.heap.size) (hk : k ≤ 1048576) (hd : Rd w D k 1 (ints nd)) (hl3 : ∀ g, D = some ⟨g, 0, none⟩ → g < w.heap.size) :
  Calls Tryz.prog 167 #[.agg #[.slice A n c, .slice B m d], .slice D k e] w fun e w' => e = .returned (.bool (areB ps ns nd)) ∧ Below w.heap.size w w' := by
 have hpl := hr.ilen
 have hql : ns.length = m := by have := hq.1; rw [flat_len] at this; omega
 have hn9 : n ≤ 9223372036854775807 := by omega
 have hm9 : m ≤ 9223372036854775807 := by omega
 have HN := Lib.hid hn
 have HM := Lib.hid hm
 have HR := Lib.hid hr
 have HQ := Lib.hid hq
 have HL := Lib.hid hl
 have HL2 := Lib.hid hl2
 have HP := Lib.hid hpl
 have HQL := Lib.hid hql
 clear hn hm hr hq hl hl2 hpl hql
 have hdl := hd.ilen
 have hk9 : k ≤ 9223372036854775807 := by omega
 have HK := Lib.hid hk
 have HD := Lib.hid hd
 have HL3 := Lib.hid hl3
 have HDL := Lib.hid hdl
 clear hk hd hl3 hdl
 go_enter Tryz.func167, Tryz.ntmps167
 go_wp2
 go_loopw [9] (fun i wr => ∃ j : Nat, j ≤ k ∧ i = .int .i64 j ∧ Below w.heap.size w wr ∧ w.heap.size < wr.heap.size ∧ wr.cell? ⟨w.heap.size, 0, none⟩ = some (.slice A n c) ∧ wr.cell? ⟨w.heap.size, 1, none⟩ = some (.slice B m d) ∧ Hid (∀ i x, i < j → nd[i]? = some x → 0 ≤ x ∧ x < ns.length)) (fun i _ => k - (intOf i).toNat)
 case atStart => exact ⟨0, Nat.zero_le _, rfl, zBe, by simp, by simp [go_sem, World.cell?_alloc_some], by simp [go_sem, World.cell?_alloc_some], Lib.hid fun i x hi => absurd hi (by omega)⟩
 case round =>
  obtain ⟨j, hj, rfl, hbw, hsz, bx0, bx1, hall⟩ := hrel
  by_cases hlt : j < k
  ·have hlt' : (j : Int) < k := by omega
   obtain ⟨g, z, rfl, hz, d0⟩ := HD.out.int hlt
   have D0 := (hbw.cell (p := ⟨g, j, none⟩) (HL3.out g rfl)).trans d0
   have HZ := Lib.hid hz
   have HB := Lib.hid hbw
   clear hz d0 hbw
   by_cases hzr : 0 ≤ z ∧ z < m
   ·obtain ⟨z0, z1⟩ := hzr
    have hin : inB z 0 ((m : Int) - 1) = true := by unfold inB; simp; omega
    go_wp2_with (go_at_call 54; refine (within_any _ _ _ _).mono ?_; rintro e w' ⟨rfl, rfl⟩; rw [hin])
    go_roundw
    case rel =>
     refine ⟨j + 1, by omega, by go_num, HB.out, hsz, bx0, bx1, Lib.hid fun i x hi hx => ?_⟩
     by_cases hij : i < j
     ·exact hall.out i x hij hx
     ·have : i = j := by omega
      subst this
      rw [HZ.out] at hx
      rw [← Option.some.inj hx, HQL.out]
      exact ⟨z0, z1⟩
    case measure => simp [intOf]; omega
   ·skip
    have HF : Hid (areB ps ns nd = false) := Lib.hid (by unfold areB; rw [inNodes_no HZ.out (by rw [HQL.out]; exact hzr)]; rfl)
    have hin : inB z 0 ((m : Int) - 1) = false := by unfold inB; simp; omega
    clear hzr
    go_wp2_with (go_at_call 54; refine (within_any _ _ _ _).mono ?_; rintro e w' ⟨rfl, rfl⟩; rw [hin])
    go_ret
    exact ⟨zAl HF.out.symm, HB.out⟩
  ·have hj9 : j = k := by omega
   have HI := Lib.hid (inNodes_all (ns := ns) (by rw [HDL.out]; exact hj9.symm) hall.out)
   have HF : Hid (areB ps ns nd = topoOkB ps ns) := Lib.hid (by unfold areB; rw [HI.out]; rfl)
   subst hj9
   clear hall
   go_wp2_with fail
   refine (topoOk_any A B n c m d ps ns  _ HN.out HM.out (HR.out.below HL.out zBe) (HQ.out.below HL2.out zBe) (zAm HL.out zBe) (zAm HL2.out zBe)).mono ?_
   rintro e w1 ⟨rfl, hb1⟩
   go_wp2
   go_ret
   exact ⟨zAl HF.out.symm, zBe⟩
set_option maxHeartbeats 2000000 in
theorem sNodes_any (A B : Option Addr) (n c m d : Nat) (ps : List Int) (ns : List Q) (D : Option Addr) (k e : Nat) (nd : List Int) (w : World) (hn : n ≤ 1048576) (hm : m ≤ 1048576) (hr : Rd w A n 1 (ints ps)) (hq : Rd w B m 4 (flat ns)) (hl : ∀ g, A = some ⟨g, 0, none⟩ → g < w.heap.size) (hl2 : ∀ g, B = some ⟨g, 0, none⟩ → g < w.heap.size) (hk : k ≤ 1048576) (hd : Rd w D k 1 (ints nd)) (hl3 : ∀ g, D = some ⟨g, 0, none⟩ → g < w.heap.size) :
  Calls Tryz.prog 160 #[.agg #[.slice A n c, .slice B m d], .slice D k e] w fun e w' => e = .returned (.bool (areB ps ns nd)) ∧ Below w.heap.size w w' := by
 have hpl := hr.ilen
 have hql : ns.length = m := by have := hq.1; rw [flat_len] at this; omega
 have hn9 : n ≤ 9223372036854775807 := by omega
 have hm9 : m ≤ 9223372036854775807 := by omega
 have HN := Lib.hid hn
 have HM := Lib.hid hm
 have HR := Lib.hid hr
 have HQ := Lib.hid hq
 have HL := Lib.hid hl
 have HL2 := Lib.hid hl2
 have HP := Lib.hid hpl
 have HQL := Lib.hid hql
 clear hn hm hr hq hl hl2 hpl hql
 have hdl := hd.ilen
 have hk9 : k ≤ 9223372036854775807 := by omega
 have HK := Lib.hid hk
 have HD := Lib.hid hd
 have HL3 := Lib.hid hl3
 have HDL := Lib.hid hdl
 clear hk hd hl3 hdl
 go_enter Tryz.func160, Tryz.ntmps160
 go_wp2
 go_loopw [9] (fun i wr => ∃ j : Nat, j ≤ k ∧ i = .int .i64 j ∧ Below w.heap.size w wr ∧ w.heap.size < wr.heap.size ∧ wr.cell? ⟨w.heap.size, 0, none⟩ = some (.slice A n c) ∧ wr.cell? ⟨w.heap.size, 1, none⟩ = some (.slice B m d) ∧ Hid (∀ i x, i < j → nd[i]? = some x → 0 ≤ x ∧ x < ns.length)) (fun i _ => k - (intOf i).toNat)
 case atStart => exact ⟨0, Nat.zero_le _, rfl, zBe, by simp, by simp [go_sem, World.cell?_alloc_some], by simp [go_sem, World.cell?_alloc_some], Lib.hid fun i x hi => absurd hi (by omega)⟩
 case round =>
  obtain ⟨j, hj, rfl, hbw, hsz, bx0, bx1, hall⟩ := hrel
  by_cases hlt : j < k
  ·have hlt' : (j : Int) < k := by omega
   obtain ⟨g, z, rfl, hz, d0⟩ := HD.out.int hlt
   have D0 := (hbw.cell (p := ⟨g, j, none⟩) (HL3.out g rfl)).trans d0
   have HZ := Lib.hid hz
   have HB := Lib.hid hbw
   clear hz d0 hbw
   by_cases hzr : 0 ≤ z ∧ z < m
   ·obtain ⟨z0, z1⟩ := hzr
    go_wp2
    go_roundw
    case rel =>
     refine ⟨j + 1, by omega, by go_num, HB.out, hsz, bx0, bx1, Lib.hid fun i x hi hx => ?_⟩
     by_cases hij : i < j
     ·exact hall.out i x hij hx
     ·have : i = j := by omega
      subst this
      rw [HZ.out] at hx
      rw [← Option.some.inj hx, HQL.out]
      exact ⟨z0, z1⟩
    case measure => simp [intOf]; omega
   ·skip
    have HF : Hid (areB ps ns nd = false) := Lib.hid (by unfold areB; rw [inNodes_no HZ.out (by rw [HQL.out]; exact hzr)]; rfl)
    by_cases hz0 : z < 0
    ·clear hzr
     go_wp2
     go_ret
     exact ⟨zAl HF.out.symm, HB.out⟩
    ·have hz1 : (m : Int) ≤ z := by omega
     have hz2 : 0 ≤ z := by omega
     clear hzr hz0
     go_wp2
     go_ret
     exact ⟨zAl HF.out.symm, HB.out⟩
  ·have hj9 : j = k := by omega
   have HI := Lib.hid (inNodes_all (ns := ns) (by rw [HDL.out]; exact hj9.symm) hall.out)
   have HF : Hid (areB ps ns nd = topoOkB ps ns) := Lib.hid (by unfold areB; rw [HI.out]; rfl)
   subst hj9
   clear hall
   go_wp2_with fail
   refine (stopoOk_any A B n c m d ps ns  _ HN.out HM.out (HR.out.below HL.out zBe) (HQ.out.below HL2.out zBe) (zAm HL.out zBe) (zAm HL2.out zBe)).mono ?_
   rintro e w1 ⟨rfl, hb1⟩
   go_wp2
   go_ret
   exact ⟨zAl HF.out.symm, zBe⟩
end Go.Proofs.YtnphjhbfpoekpaaGreat
