import Derived.Test.YtnphjhbfpoekpaaGreatA6Pl
import Derived.Test.YtnphjhbfpoekpaaGreatA5Pl
import Derived.Test.YtnphjhbfpoekpaaGreatA3Pl
import Derived.Test.YtnphjhbfpoekpaaGreatA7Pl
import Derived.Test.YtnphjhbfpoekpaaGreatApPl
import Derived.Test.YtnphjhbfpoekpaaGreatA4Pl
namespace Go.Proofs.YtnphjhbfpoekpaaGreat
set_option linter.unusedSimpArgs false
set_option linter.unusedVariables false
set_option linter.unnecessarySimpa false
open Go.RowKit
def hasZ (zs : List Int) (x : Int) : Bool := zs.any fun y => y == x
theorem hasZ_iff {zs : List Int} {x : Int} : hasZ zs x = true ↔ x ∈ zs := by
 unfold hasZ; rw [List.any_eq_true]; simp
theorem hasZ_at {zs : List Int} {x : Int} {k : Nat} (h : zs[k]? = some x) : hasZ zs x = true := hasZ_iff.2 (List.mem_of_getElem? h)
theorem hasZ_none {zs : List Int} {x : Int} {n : Nat} (hn : zs.length = n) (h : ∀ j y, j < n → zs[j]? = some y → y ≠ x) : hasZ zs x = false := by
 cases hh : hasZ zs x with
 | false => rfl
 | true =>
  obtain ⟨j, hj, e⟩ := List.getElem_of_mem (hasZ_iff.1 hh)
  exact absurd e (h j _ (by omega) (zgh hj))
set_option maxHeartbeats 1000000 in
theorem shas_any (A : Option Addr) (n c : Nat) (zs : List Int) (x : Int) (w : World) (hn : n ≤ 1048577) (hr : Rd w A n 1 (ints zs)) :
  Calls Tryz.prog 161 #[.slice A n c, .int .i64 x] w fun e w' => e = .returned (.bool (hasZ zs x)) ∧ w = w' := by
 have hpl := hr.ilen
 have hm : n ≤ 9223372036854775807 := by omega
 have HR := Lib.hid hr
 have HP := Lib.hid hpl
 clear hn hr hpl
 go_enter Tryz.func161, Tryz.ntmps161
 go_wp2
 go_loop [9] (fun i => ∃ k : Nat, k ≤ n ∧ i = .int .i64 k ∧ Hid (∀ j y, j < k → zs[j]? = some y → y ≠ x)) (fun i => n - (intOf i).toNat)
 case atStart => exact ⟨0, Nat.zero_le _, rfl, Lib.hid fun j y hj => absurd hj (by omega)⟩
 case round =>
  obtain ⟨k, hk, rfl, hall⟩ := hrel
  by_cases hlt : k < n
  ·obtain ⟨g, z, rfl, hz, d0⟩ := HR.out.int hlt
   have HZ := Lib.hid hz
   have hlt' : (k : Int) < n := by omega
   clear hz
   by_cases he : z = x
   ·have HF := Lib.hid (hasZ_at (he ▸ HZ.out))
    have he' : (z == x) = true := by simp [he]
    have he2 : (x == z) = true := by simp [he]
    clear he
    go_wp2
    go_ret
    exact ⟨zAj HF.out.symm, rfl⟩
   ·have he' : (z == x) = false := by simp [he]
    have he2 : (x == z) = false := by simp; exact fun e => he e.symm
    have HE := Lib.hid he
    clear he
    go_wp2
    refine ⟨⟨k + 1, by omega, by go_num, Lib.hid fun j y hj hy => ?_⟩, by simp [intOf]; omega⟩
    by_cases hjk : j < k
    ·exact hall.out j y hjk hy
    ·have : j = k := by omega
     subst this
     rw [HZ.out] at hy
     rw [← Option.some.inj hy]; exact HE.out
  ·have hk9 : k = n := by omega
   subst hk9
   have HF := Lib.hid (hasZ_none HP.out hall.out)
   go_wp2
   go_ret
   exact ⟨zAj HF.out.symm, rfl⟩
set_option maxHeartbeats 1000000 in
theorem index_any (A : Option Addr) (n c : Nat) (zs : List Int) (x : Int) (w : World) (hn : n ≤ 1048577) (hr : Rd w A n 1 (ints zs)) :
  Calls Tryz.prog 211 #[.slice A n c, .int .i64 x] w fun e w' => (∃ i : Int, e = .returned (.int .i64 i) ∧ (0 ≤ i ↔ hasZ zs x = true)) ∧ w = w' := by
 have hpl := hr.ilen
 have hm : n ≤ 9223372036854775807 := by omega
 have HR := Lib.hid hr
 have HP := Lib.hid hpl
 clear hn hr hpl
 go_enter Tryz.func211, Tryz.ntmps211
 go_wp2
 go_loop [5, 8] (fun _ i => ∃ k : Nat, k ≤ n ∧ i = .int .i64 k ∧ Hid (∀ j y, j < k → zs[j]? = some y → y ≠ x)) (fun _ i => n - (intOf i).toNat)
 case atStart => exact ⟨0, Nat.zero_le _, rfl, Lib.hid fun j y hj => absurd hj (by omega)⟩
 case round =>
  obtain ⟨k, hk, rfl, hall⟩ := hrel
  by_cases hlt : k < n
  ·obtain ⟨g, z, rfl, hz, d0⟩ := HR.out.int hlt
   have HZ := Lib.hid hz
   have hlt' : (k : Int) < n := by omega
   clear hz
   by_cases he : z = x
   ·have HF := Lib.hid (hasZ_at (he ▸ HZ.out))
    have he' : (z == x) = true := by simp [he]
    have he2 : (x == z) = true := by simp [he]
    clear he
    go_wp2
    go_ret
    exact ⟨⟨_, rfl, fun _ => HF.out, fun _ => by omega⟩, rfl⟩
   ·have he' : (z == x) = false := by simp [he]
    have he2 : (x == z) = false := by simp; exact fun e => he e.symm
    have HE := Lib.hid he
    clear he
    go_wp2
    refine ⟨⟨k + 1, by omega, by go_num, Lib.hid fun j y hj hy => ?_⟩, by simp [intOf]; omega⟩
    by_cases hjk : j < k
    ·exact hall.out j y hjk hy
    ·have : j = k := by omega
     subst this
     rw [HZ.out] at hy
     rw [← Option.some.inj hy]; exact HE.out
  ·have hk9 : k = n := by omega
   subst hk9
   have HF := Lib.hid (hasZ_none HP.out hall.out)
   go_wp2
   go_ret
   exact ⟨⟨_, rfl, fun h => absurd h (by decide), fun h => by rw [HF.out] at h; cases h⟩, rfl⟩
set_option maxHeartbeats 1000000 in
theorem contains_any (A : Option Addr) (n c : Nat) (zs : List Int) (x : Int) (w : World) (hn : n ≤ 1048577) (hr : Rd w A n 1 (ints zs)) :
  Calls Tryz.prog 168 #[.slice A n c, .int .i64 x] w fun e w' => e = .returned (.bool (hasZ zs x)) ∧ w = w' := by
 have HN := Lib.hid hn
 have HR := Lib.hid hr
 clear hn hr
 go_enter Tryz.func168, Tryz.ntmps168
 go_wp2_with fail
 refine (index_any A n c zs x _ HN.out HR.out).mono ?_
 rintro e w1 ⟨⟨i, rfl, hi⟩, rfl⟩
 have HI := Lib.hid hi
 clear hi
 cases hh : hasZ zs x
 ·have h0 : i < 0 := by
   by_cases h : 0 ≤ i
   ·rw [HI.out.1 h] at hh; cases hh
   ·omega
  go_wp2
  go_ret
  exact ⟨zAj (by rw [hh]; try (simpa using h0)), rfl⟩
 ·have h0 : 0 ≤ i := HI.out.2 hh
  go_wp2
  go_ret
  exact ⟨zAj (by rw [hh]; try (simpa using h0)), rfl⟩
def upI (ps : List Int) (s : Nat) : List Int := (up ps s).map fun (i : Nat) => (i : Int)
theorem upI_mem {ps : List Int} {s k : Nat} : ((k : Int) ∈ upI ps s) ↔ k ∈ up ps s := by
 unfold upI; rw [List.mem_map]
 constructor
 ·rintro ⟨a, ha, e⟩
  have : a = k := by omega
  rw [← this]; exact ha
 ·intro h; exact ⟨k, h, rfl⟩
def preI (l : List Nat) : List Int := l.map fun (i : Nat) => (i : Int)
set_option maxHeartbeats 2000000 in
theorem above_any (A B : Option Addr) (n c m d : Nat) (ps : List Int) (s : Nat) (w : World) (hn : n ≤ 1048576) (hr : Rd w A n 1 (ints ps)) (hl : ∀ g, A = some ⟨g, 0, none⟩ → g < w.heap.size) (hok : parOk ps) (hs : s < n) :
  Calls Tryz.prog 169 #[.agg #[.slice A n c, .slice B m d], .int .i64 s] w fun e w' => ∃ v, e = .returned v ∧ w'.ownsRow w.heap.size 3 1 v (upI ps s).length (ints (upI ps s)) ∧ Below w.heap.size w w' := by
 obtain ⟨i0, hi, hz0, hz1, hz2⟩ := info_parts infoI
 have hpl := hr.ilen
 have hm9 : n ≤ 9223372036854775807 := by omega
 have hul : (up ps s).length ≤ n := by rw [up_len hok s (by omega)]; have := dep_le hok s (by omega); omega
 have HN := Lib.hid hn
 have HR := Lib.hid hr
 have HL := Lib.hid hl
 have HP := Lib.hid hpl
 have HO := Lib.hid hok
 have HU := Lib.hid hul
 clear hn hr hl hpl hok hul
 go_enter Tryz.func169, Tryz.ntmps169
 go_wp2
 go_loopw [1, 5] (fun x v wr => ∃ (k : Nat) (pre : List Nat), k < n ∧ x = .int .i64 k ∧ Hid (up ps s = pre ++ up ps k) ∧ wr.ownsRow (w.heap.size + 1) 3 1 v (preI (pre ++ [k])).length (ints (preI (pre ++ [k]))) ∧ Below w.heap.size w wr ∧ w.heap.size + 1 ≤ wr.heap.size ∧ wr.cell? ⟨w.heap.size, 0, none⟩ = some (.slice A n c)) (fun x _ _ => (intOf x).toNat)
 case atStart =>
  refine ⟨s, [], hs, rfl, Lib.hid rfl, own_lit (cs := [.int .i64 s]) (zAk _ (by simp)) rfl (by show 1 ≤ maxLen; decide) (by omega), zBe, zOm, by simp [go_sem, World.cell?_alloc_some]⟩
 case round =>
  obtain ⟨k, pre, hk, rfl, hup, hown, hbw, hsz, hbox⟩ := hrel
  by_cases h0 : 0 < k
  ·have h0' : (0 : Int) < (k : Int) := by omega
   obtain ⟨g, z, rfl, hz, d0⟩ := HR.out.int hk
   have hg := HL.out g rfl
   have D0 := (hbw.cell (p := ⟨g, k, none⟩) hg).trans d0
   have hzz := HO.out k (by omega) (by rw [HP.out]; omega)
   rw [getD_of hz] at hzz
   obtain ⟨j, rfl⟩ : ∃ j : Nat, z = j := ⟨z.toNat, by omega⟩
   have hjk : j < k := by omega
   have hj : par ps k = j := by unfold par; rw [getD_of hz]; simp
   have hup2 := up_pos HO.out (s := k) (by omega) (by rw [HP.out]; omega)
   rw [hj] at hup2
   have HUP := Lib.hid (show up ps s = (pre ++ [k]) ++ up ps j by rw [hup.out, hup2]; simp)
   have hlen : (preI (pre ++ [k])).length ≤ n := by
    have h1 := congrArg List.length HUP.out
    have h2 := HU.out
    simp only [List.length_append] at h1
    simp only [preI, List.length_map, List.length_append]; omega
   have HLE := Lib.hid hlen
   have HB := Lib.hid hbw
   clear hz d0 hup2 hj hzz hlen hbw hup
   go_wp2_with (at_builtin; refine wpList_append_own _ rfl _ _ 23 rfl (w.heap.size + 1) 3 i0 (.int .i64 0) 1 8 Tryz.underlying23 hi hz0 hz1 hz2 rfl (by decide) _ _ _ rfl (hown.alloc _) ⟨wr.heap.size, 0, none⟩ 1 1 [.int .i64 (j : Int)] rfl rfl ?c1 ?c2 ?c3 ?c4 ?c5 ?_)
   try case c1 =>
    intro j y hy
    match j, hy with
    | 0, hy => (simp at hy; subst hy; simp [Addr.add])
   try case c2 => simp [Value.oneCell']
   case c3 => unfold maxLen; have := HN.out; have := HLE.out; omega
   case c4 => have := HN.out; have := HLE.out; omega
   try case c5 => first | omega | (simp <;> omega)
   intro v' w1 hown1 hg1 _
   have hgb := hg1.block w.heap.size (by simp <;> omega) (fun e => by have := own_ge hown _ e.symm; omega)
   clear hz0 hz1 hz2 hi
   go_wp2
   go_roundw
   case rel =>
    refine ⟨j, pre ++ [k], by omega, rfl, HUP, ?_, ?_, ?_, ?_⟩
    ·have e : preI (pre ++ [k] ++ [j]) = preI (pre ++ [k]) ++ [(j : Int)] := by simp [preI]
     rw [e, List.length_append]
     have e2 : ints (preI (pre ++ [k]) ++ [(j : Int)]) = ints (preI (pre ++ [k])) ++ [.int .i64 (j : Int)] := by simp [ints]
     rw [e2]; simpa using hown1
    ·exact Below.grown (HB.out.alloc HB.out.size _) hg1 (by simp; have := HB.out.size; omega) (fun k hk => by have := own_ge hown k hk; omega)
    ·have := hg1.size; simp at this; omega
    ·rw [World.cell?_of_block hgb]; simp [hbox, World.cell?_alloc_some]
   case measure => simp [intOf]; omega
  ·have hk0 : k = 0 := by omega
   subst hk0
   have e : preI (pre ++ [0]) = upI ps s := by unfold preI upI; rw [hup.out, up_zero]
   rw [e] at hown
   have HW := Lib.hid hown
   have HB := Lib.hid hbw
   clear hown hbw e hup hz0 hz1 hz2 hi
   go_wp2
   go_ret
   exact ⟨_, rfl, zAn HW.out (by omega), HB.out⟩
set_option maxHeartbeats 2000000 in
theorem sUp_any (A B : Option Addr) (n c m d : Nat) (ps : List Int) (s : Nat) (w : World) (hn : n ≤ 1048576) (hr : Rd w A n 1 (ints ps)) (hl : ∀ g, A = some ⟨g, 0, none⟩ → g < w.heap.size) (hok : parOk ps) (hs : s < n) :
  Calls Tryz.prog 162 #[.agg #[.slice A n c, .slice B m d], .int .i64 s] w fun e w' => ∃ v, e = .returned v ∧ w'.ownsRow w.heap.size 3 1 v (upI ps s).length (ints (upI ps s)) ∧ Below w.heap.size w w' := by
 obtain ⟨i0, hi, hz0, hz1, hz2⟩ := info_parts infoI
 have hpl := hr.ilen
 have hm9 : n ≤ 9223372036854775807 := by omega
 have hul : (up ps s).length ≤ n := by rw [up_len hok s (by omega)]; have := dep_le hok s (by omega); omega
 have HN := Lib.hid hn
 have HR := Lib.hid hr
 have HL := Lib.hid hl
 have HP := Lib.hid hpl
 have HO := Lib.hid hok
 have HU := Lib.hid hul
 clear hn hr hl hpl hok hul
 go_enter Tryz.func162, Tryz.ntmps162
 go_wp2
 go_loopw [1, 5] (fun x v wr => ∃ (k : Nat) (pre : List Nat), k < n ∧ x = .int .i64 k ∧ Hid (up ps s = pre ++ up ps k) ∧ wr.ownsRow (w.heap.size + 1) 3 1 v (preI (pre ++ [k])).length (ints (preI (pre ++ [k]))) ∧ Below w.heap.size w wr ∧ w.heap.size + 1 ≤ wr.heap.size ∧ wr.cell? ⟨w.heap.size, 0, none⟩ = some (.slice A n c)) (fun x _ _ => (intOf x).toNat)
 case atStart =>
  refine ⟨s, [], hs, rfl, Lib.hid rfl, own_lit (cs := [.int .i64 s]) (zAk _ (by simp)) rfl (by show 1 ≤ maxLen; decide) (by omega), zBe, zOm, by simp [go_sem, World.cell?_alloc_some]⟩
 case round =>
  obtain ⟨k, pre, hk, rfl, hup, hown, hbw, hsz, hbox⟩ := hrel
  by_cases h0 : 0 < k
  ·have h0' : (0 : Int) < (k : Int) := by omega
   obtain ⟨g, z, rfl, hz, d0⟩ := HR.out.int hk
   have hg := HL.out g rfl
   have D0 := (hbw.cell (p := ⟨g, k, none⟩) hg).trans d0
   have hzz := HO.out k (by omega) (by rw [HP.out]; omega)
   rw [getD_of hz] at hzz
   obtain ⟨j, rfl⟩ : ∃ j : Nat, z = j := ⟨z.toNat, by omega⟩
   have hjk : j < k := by omega
   have hj : par ps k = j := by unfold par; rw [getD_of hz]; simp
   have hup2 := up_pos HO.out (s := k) (by omega) (by rw [HP.out]; omega)
   rw [hj] at hup2
   have HUP := Lib.hid (show up ps s = (pre ++ [k]) ++ up ps j by rw [hup.out, hup2]; simp)
   have hlen : (preI (pre ++ [k])).length ≤ n := by
    have h1 := congrArg List.length HUP.out
    have h2 := HU.out
    simp only [List.length_append] at h1
    simp only [preI, List.length_map, List.length_append]; omega
   have HLE := Lib.hid hlen
   have HB := Lib.hid hbw
   clear hz d0 hup2 hj hzz hlen hbw hup
   go_wp2_with (at_builtin; refine wpList_append_own _ rfl _ _ 23 rfl (w.heap.size + 1) 3 i0 (.int .i64 0) 1 8 Tryz.underlying23 hi hz0 hz1 hz2 rfl (by decide) _ _ _ rfl (hown.alloc _) ⟨wr.heap.size, 0, none⟩ 1 1 [.int .i64 (j : Int)] rfl rfl ?c1 ?c2 ?c3 ?c4 ?c5 ?_)
   try case c1 =>
    intro j y hy
    match j, hy with
    | 0, hy => (simp at hy; subst hy; simp [Addr.add])
   try case c2 => simp [Value.oneCell']
   case c3 => unfold maxLen; have := HN.out; have := HLE.out; omega
   case c4 => have := HN.out; have := HLE.out; omega
   try case c5 => first | omega | (simp <;> omega)
   intro v' w1 hown1 hg1 _
   have hgb := hg1.block w.heap.size (by simp <;> omega) (fun e => by have := own_ge hown _ e.symm; omega)
   clear hz0 hz1 hz2 hi
   go_wp2
   go_roundw
   case rel =>
    refine ⟨j, pre ++ [k], by omega, rfl, HUP, ?_, ?_, ?_, ?_⟩
    ·have e : preI (pre ++ [k] ++ [j]) = preI (pre ++ [k]) ++ [(j : Int)] := by simp [preI]
     rw [e, List.length_append]
     have e2 : ints (preI (pre ++ [k]) ++ [(j : Int)]) = ints (preI (pre ++ [k])) ++ [.int .i64 (j : Int)] := by simp [ints]
     rw [e2]; simpa using hown1
    ·exact Below.grown (HB.out.alloc HB.out.size _) hg1 (by simp; have := HB.out.size; omega) (fun k hk => by have := own_ge hown k hk; omega)
    ·have := hg1.size; simp at this; omega
    ·rw [World.cell?_of_block hgb]; simp [hbox, World.cell?_alloc_some]
   case measure => simp [intOf]; omega
  ·have hk0 : k = 0 := by omega
   subst hk0
   have e : preI (pre ++ [0]) = upI ps s := by unfold preI upI; rw [hup.out, up_zero]
   rw [e] at hown
   have HW := Lib.hid hown
   have HB := Lib.hid hbw
   clear hown hbw e hup hz0 hz1 hz2 hi
   go_wp2
   go_ret
   exact ⟨_, rfl, zAn HW.out (by omega), HB.out⟩
theorem inNodes_all {ns : List Q} {nd : List Int} {k : Nat} (hk : nd.length = k) (h : ∀ j x, j < k → nd[j]? = some x → 0 ≤ x ∧ x < ns.length) : inNodes ns nd = true := inNodes_iff.2 fun x hx => by
 obtain ⟨j, hj, rfl⟩ := List.getElem_of_mem hx
 exact h j _ (by omega) (zgh hj)
theorem inNodes_no {ns : List Q} {nd : List Int} {j : Nat} {x : Int} (hx : nd[j]? = some x) (h : ¬ (0 ≤ x ∧ x < ns.length)) : inNodes ns nd = false := by
 cases hh : inNodes ns nd with
 | false => rfl
 | true => exact absurd (inNodes_iff.1 hh x (List.mem_of_getElem? hx)) h
set_option maxHeartbeats 2000000 in
theorem areNodes_any (A B : Option Addr) (n c m d : Nat) (ps : List Int) (ns : List Q) (D : Option Addr) (k e : Nat) (nd : List Int) (w : World) (hn : n ≤ 1048576) (hm : m ≤ 1048576) (hr : Rd w A n 1 (ints ps)) (hq : Rd w B m 4 (flat ns)) (hl : ∀ g, A = some ⟨g, 0, none⟩ → g < w.heap.size) (hl2 : ∀ g, B = some ⟨g, 0, none⟩ → g < w.heap.size) (hk : k ≤ 1048576) (hd : Rd w D k 1 (ints nd)) (hl3 : ∀ g, D = some ⟨g, 0, none⟩ → g < w.heap.size) :
  Calls Tryz.prog 167 #[.agg #[.slice A n c, .slice B m d], .slice D k e] w fun e w' => e = .returned (.bool (areB ps ns nd)) ∧ Below w.heap.size w w' := by
 have hpl := hr.ilen
 have hql : ns.length = m := by have := hq.1; rw [flat_len] at this; omega
 have hn9 : n ≤ 9223372036854775807 := by omega
 have hm9 : m ≤ 9223372036854775807 := by omega
 have HN := Lib.hid hn
 have HM := Lib.hid hm
 have HR := Lib.hid hr
 have HQ := Lib.hid hq
 have HL := Lib.hid hl
 have HL2 := Lib.hid hl2
 have HP := Lib.hid hpl
 have HQL := Lib.hid hql
 clear hn hm hr hq hl hl2 hpl hql
 have hdl := hd.ilen
 have hk9 : k ≤ 9223372036854775807 := by omega
 have HK := Lib.hid hk
 have HD := Lib.hid hd
 have HL3 := Lib.hid hl3
 have HDL := Lib.hid hdl
 clear hk hd hl3 hdl
 go_enter Tryz.func167, Tryz.ntmps167
 go_wp2
 go_loopw [9] (fun i wr => ∃ j : Nat, j ≤ k ∧ i = .int .i64 j ∧ Below w.heap.size w wr ∧ w.heap.size < wr.heap.size ∧ wr.cell? ⟨w.heap.size, 0, none⟩ = some (.slice A n c) ∧ wr.cell? ⟨w.heap.size, 1, none⟩ = some (.slice B m d) ∧ Hid (∀ i x, i < j → nd[i]? = some x → 0 ≤ x ∧ x < ns.length)) (fun i _ => k - (intOf i).toNat)
 case atStart => exact ⟨0, Nat.zero_le _, rfl, zBe, by simp, by simp [go_sem, World.cell?_alloc_some], by simp [go_sem, World.cell?_alloc_some], Lib.hid fun i x hi => absurd hi (by omega)⟩
 case round =>
  obtain ⟨j, hj, rfl, hbw, hsz, bx0, bx1, hall⟩ := hrel
  by_cases hlt : j < k
  ·have hlt' : (j : Int) < k := by omega
   obtain ⟨g, z, rfl, hz, d0⟩ := HD.out.int hlt
   have D0 := (hbw.cell (p := ⟨g, j, none⟩) (HL3.out g rfl)).trans d0
   have HZ := Lib.hid hz
   have HB := Lib.hid hbw
   clear hz d0 hbw
   by_cases hzr : 0 ≤ z ∧ z < m
   ·obtain ⟨z0, z1⟩ := hzr
    have hin : inB z 0 ((m : Int) - 1) = true := by unfold inB; simp; omega
    go_wp2_with (go_at_call 54; refine (within_any _ _ _ _).mono ?_; rintro e w' ⟨rfl, rfl⟩; rw [hin])
    go_roundw
    case rel =>
     refine ⟨j + 1, by omega, by go_num, HB.out, hsz, bx0, bx1, Lib.hid fun i x hi hx => ?_⟩
     by_cases hij : i < j
     ·exact hall.out i x hij hx
     ·have : i = j := by omega
      subst this
      rw [HZ.out] at hx
      rw [← Option.some.inj hx, HQL.out]
      exact ⟨z0, z1⟩
    case measure => simp [intOf]; omega
   ·skip
    have HF : Hid (areB ps ns nd = false) := Lib.hid (by unfold areB; rw [inNodes_no HZ.out (by rw [HQL.out]; exact hzr)]; rfl)
    have hin : inB z 0 ((m : Int) - 1) = false := by unfold inB; simp; omega
    clear hzr
    go_wp2_with (go_at_call 54; refine (within_any _ _ _ _).mono ?_; rintro e w' ⟨rfl, rfl⟩; rw [hin])
    go_ret
    exact ⟨zAj HF.out.symm, HB.out⟩
  ·have hj9 : j = k := by omega
   have HI := Lib.hid (inNodes_all (ns := ns) (by rw [HDL.out]; exact hj9.symm) hall.out)
   have HF : Hid (areB ps ns nd = topoOkB ps ns) := Lib.hid (by unfold areB; rw [HI.out]; rfl)
   subst hj9
   clear hall
   go_wp2_with fail
   refine (topoOk_any A B n c m d ps ns  _ HN.out HM.out (HR.out.below HL.out zBe) (HQ.out.below HL2.out zBe) (zAi HL.out zBe) (zAi HL2.out zBe)).mono ?_
   rintro e w1 ⟨rfl, hb1⟩
   go_wp2
   go_ret
   exact ⟨zAj HF.out.symm, zBe⟩
set_option maxHeartbeats 2000000 in
theorem sNodes_any (A B : Option Addr) (n c m d : Nat) (ps : List Int) (ns : List Q) (D : Option Addr) (k e : Nat) (nd : List Int) (w : World) (hn : n ≤ 1048576) (hm : m ≤ 1048576) (hr : Rd w A n 1 (ints ps)) (hq : Rd w B m 4 (flat ns)) (hl : ∀ g, A = some ⟨g, 0, none⟩ → g < w.heap.size) (hl2 : ∀ g, B = some ⟨g, 0, none⟩ → g < w.heap.size) (hk : k ≤ 1048576) (hd : Rd w D k 1 (ints nd)) (hl3 : ∀ g, D = some ⟨g, 0, none⟩ → g < w.heap.size) :
  Calls Tryz.prog 160 #[.agg #[.slice A n c, .slice B m d], .slice D k e] w fun e w' => e = .returned (.bool (areB ps ns nd)) ∧ Below w.heap.size w w' := by
 have hpl := hr.ilen
 have hql : ns.length = m := by have := hq.1; rw [flat_len] at this; omega
 have hn9 : n ≤ 9223372036854775807 := by omega
 have hm9 : m ≤ 9223372036854775807 := by omega
 have HN := Lib.hid hn
 have HM := Lib.hid hm
 have HR := Lib.hid hr
 have HQ := Lib.hid hq
 have HL := Lib.hid hl
 have HL2 := Lib.hid hl2
 have HP := Lib.hid hpl
 have HQL := Lib.hid hql
 clear hn hm hr hq hl hl2 hpl hql
 have hdl := hd.ilen
 have hk9 : k ≤ 9223372036854775807 := by omega
 have HK := Lib.hid hk
 have HD := Lib.hid hd
 have HL3 := Lib.hid hl3
 have HDL := Lib.hid hdl
 clear hk hd hl3 hdl
 go_enter Tryz.func160, Tryz.ntmps160
 go_wp2
 go_loopw [9] (fun i wr => ∃ j : Nat, j ≤ k ∧ i = .int .i64 j ∧ Below w.heap.size w wr ∧ w.heap.size < wr.heap.size ∧ wr.cell? ⟨w.heap.size, 0, none⟩ = some (.slice A n c) ∧ wr.cell? ⟨w.heap.size, 1, none⟩ = some (.slice B m d) ∧ Hid (∀ i x, i < j → nd[i]? = some x → 0 ≤ x ∧ x < ns.length)) (fun i _ => k - (intOf i).toNat)
 case atStart => exact ⟨0, Nat.zero_le _, rfl, zBe, by simp, by simp [go_sem, World.cell?_alloc_some], by simp [go_sem, World.cell?_alloc_some], Lib.hid fun i x hi => absurd hi (by omega)⟩
 case round =>
  obtain ⟨j, hj, rfl, hbw, hsz, bx0, bx1, hall⟩ := hrel
  by_cases hlt : j < k
  ·have hlt' : (j : Int) < k := by omega
   obtain ⟨g, z, rfl, hz, d0⟩ := HD.out.int hlt
   have D0 := (hbw.cell (p := ⟨g, j, none⟩) (HL3.out g rfl)).trans d0
   have HZ := Lib.hid hz
   have HB := Lib.hid hbw
   clear hz d0 hbw
   by_cases hzr : 0 ≤ z ∧ z < m
   ·obtain ⟨z0, z1⟩ := hzr
    go_wp2
    go_roundw
    case rel =>
     refine ⟨j + 1, by omega, by go_num, HB.out, hsz, bx0, bx1, Lib.hid fun i x hi hx => ?_⟩
     by_cases hij : i < j
     ·exact hall.out i x hij hx
     ·have : i = j := by omega
      subst this
      rw [HZ.out] at hx
      rw [← Option.some.inj hx, HQL.out]
      exact ⟨z0, z1⟩
    case measure => simp [intOf]; omega
   ·skip
    have HF : Hid (areB ps ns nd = false) := Lib.hid (by unfold areB; rw [inNodes_no HZ.out (by rw [HQL.out]; exact hzr)]; rfl)
    by_cases hz0 : z < 0
    ·clear hzr
     go_wp2
     go_ret
     exact ⟨zAj HF.out.symm, HB.out⟩
    ·have hz1 : (m : Int) ≤ z := by omega
     have hz2 : 0 ≤ z := by omega
     clear hzr hz0
     go_wp2
     go_ret
     exact ⟨zAj HF.out.symm, HB.out⟩
  ·have hj9 : j = k := by omega
   have HI := Lib.hid (inNodes_all (ns := ns) (by rw [HDL.out]; exact hj9.symm) hall.out)
   have HF : Hid (areB ps ns nd = topoOkB ps ns) := Lib.hid (by unfold areB; rw [HI.out]; rfl)
   subst hj9
   clear hall
   go_wp2_with fail
   refine (stopoOk_any A B n c m d ps ns  _ HN.out HM.out (HR.out.below HL.out zBe) (HQ.out.below HL2.out zBe) (zAi HL.out zBe) (zAi HL2.out zBe)).mono ?_
   rintro e w1 ⟨rfl, hb1⟩
   go_wp2
   go_ret
   exact ⟨zAj HF.out.symm, zBe⟩
theorem nodes_at {ps : List Int} {ns : List Q} {nd : List Int} (h : areB ps ns nd = true) {j : Nat} {z : Int} (hz : nd[j]? = some z) : ∃ x : Nat, z = x ∧ x < ns.length ∧ lfN ns x < ps.length := by
 simp only [areB, Bool.and_eq_true] at h
 have := inNodes_iff.1 h.1 z (List.mem_of_getElem? hz)
 exact ⟨z.toNat, by omega, by omega, (lfN_ok h.2 (by omega) (by omega)).1⟩
theorem hasZ_up {ps : List Int} {s l : Nat} : hasZ (upI ps l) (s : Int) = true ↔ s ∈ up ps l := by rw [hasZ_iff]; exact upI_mem
def lowTo (ps : List Int) (ns : List Q) (nd : List Int) (s i : Nat) : Bool := (nd.take i).all fun x => decide (s ∈ up ps (lfN ns x))
theorem lowTo_succ {ps : List Int} {ns : List Q} {nd : List Int} {s i : Nat} {x : Int} (h : nd[i]? = some x) : lowTo ps ns nd s (i + 1) = (lowTo ps ns nd s i && decide (s ∈ up ps (lfN ns x))) := by
 unfold lowTo; rw [List.take_add_one, h]; simp
theorem lowTo_all {ps : List Int} {ns : List Q} {nd : List Int} {s k : Nat} (h : nd.length = k) : lowTo ps ns nd s k = lowB ps (nd.map (lfN ns)) s := by
 unfold lowTo lowB
 rw [List.take_of_length_le (by omega), List.all_map]
 congr 1
 funext x
 simp
theorem lowN_lt {ps : List Int} {ls : List Nat} {k : Nat} (h : ¬ lowN ps ls k < 0) : ∃ b : Nat, lowN ps ls k = b ∧ b < k := by
 rcases lowN_spec ps ls k with ⟨h1, _⟩ | ⟨b, h1, h2, _⟩
 ·omega
 ·exact ⟨b, h1, h2⟩
theorem lowN_step {ps : List Int} {ls : List Nat} {s b : Nat} (hb : lowB ps ls s = true) (hbe : lowN ps ls s = (b : Int)) : lowN ps ls (s + 1) = if lev ps s ≤ lev ps b then (s : Int) else (b : Int) := by
 rw [lowN_succ, hbe]
 unfold lowF
 by_cases hle : lev ps s ≤ lev ps b
 ·rw [if_pos ⟨hb, Or.inr (by simpa using hle)⟩, if_pos hle]
 ·rw [if_neg hle, if_neg]
  rintro ⟨_, h | h⟩
  ·omega
  ·exact hle (by simpa using h)
theorem leaf_at {ps : List Int} {ns : List Q} (h : topoOkB ps ns = true) {x : Nat} (hx : x < ns.length) {q : Q} (hq : ns[x]? = some q) : q.t = (lfN ns (x : Int) : Int) ∧ lfN ns (x : Int) < ps.length := by
 obtain ⟨h1, _, q', h2, h3, _⟩ := lfN_ok h (x := (x : Int)) (by omega) (by omega)
 simp only [Int.toNat_natCast] at h2
 rw [hq] at h2
 rw [Option.some.inj h2]; exact ⟨h3, h1⟩
theorem upI_len {ps : List Int} (h : parOk ps) {l : Nat} (hl : l < ps.length) : (upI ps l).length ≤ ps.length := by
 have h1 := up_len h l hl
 have h2 := dep_le h l hl
 simp only [upI, List.length_map]; omega
set_option maxHeartbeats 8000000 in
theorem lowest_any (A B : Option Addr) (n c m d : Nat) (ps : List Int) (ns : List Q) (D : Option Addr) (k e : Nat) (nd : List Int) (w : World) (hn : n ≤ 1048576) (hm : m ≤ 1048576) (hr : Rd w A n 1 (ints ps)) (hq : Rd w B m 4 (flat ns)) (hl : ∀ g, A = some ⟨g, 0, none⟩ → g < w.heap.size) (hl2 : ∀ g, B = some ⟨g, 0, none⟩ → g < w.heap.size) (hk : k ≤ 1048576) (hd : Rd w D k 1 (ints nd)) (hl3 : ∀ g, D = some ⟨g, 0, none⟩ → g < w.heap.size) :
  Calls Tryz.prog 92 #[.agg #[.slice A n c, .slice B m d], .slice D k e] w fun e w' => e = .returned (.int .i64 (lowestV ps ns nd)) ∧ Below w.heap.size w w' := by
 have hpl := hr.ilen
 have hql : ns.length = m := by have := hq.1; rw [flat_len] at this; omega
 have hn9 : n ≤ 9223372036854775807 := by omega
 have hm9 : m ≤ 9223372036854775807 := by omega
 have HN := Lib.hid hn
 have HM := Lib.hid hm
 have HR := Lib.hid hr
 have HQ := Lib.hid hq
 have HL := Lib.hid hl
 have HL2 := Lib.hid hl2
 have HP := Lib.hid hpl
 have HQL := Lib.hid hql
 clear hn hm hr hq hl hl2 hpl hql
 have hdl := hd.ilen
 have hk9 : k ≤ 9223372036854775807 := by omega
 have HK := Lib.hid hk
 have HD := Lib.hid hd
 have HL3 := Lib.hid hl3
 have HDL := Lib.hid hdl
 clear hk hd hl3 hdl
 cases har : areB ps ns nd
 ·have HF : Hid (lowestV ps ns nd = -1) := Lib.hid (by unfold lowestV; rw [har]; rfl)
  go_enter Tryz.func92, Tryz.ntmps92
  go_wp2_with fail
  refine (areNodes_any A B n c m d ps ns D k e nd _ HN.out HM.out (HR.out.below HL.out zBe) (HQ.out.below HL2.out zBe) (zAi HL.out zBe) (zAi HL2.out zBe) HK.out (HD.out.below HL3.out zBe) (zAi HL3.out zBe)).mono ?_
  rintro e w1 ⟨rfl, hb1⟩
  rw [har]
  go_wp2
  go_ret
  exact ⟨ret_int HF.out.symm, zBe⟩
 ·by_cases hk0 : k = 0
  ·have HF : Hid (lowestV ps ns nd = -1) := Lib.hid (by unfold lowestV; rw [har, show nd.length = 0 by rw [HDL.out]; exact hk0]; rfl)
   subst hk0
   go_enter Tryz.func92, Tryz.ntmps92
   go_wp2_with fail
   refine (areNodes_any A B n c m d ps ns D 0 e nd _ HN.out HM.out (HR.out.below HL.out zBe) (HQ.out.below HL2.out zBe) (zAi HL.out zBe) (zAi HL2.out zBe) HK.out (HD.out.below HL3.out zBe) (zAi HL3.out zBe)).mono ?_
   rintro e w1 ⟨rfl, hb1⟩
   rw [har]
   go_wp2
   go_ret
   exact ⟨ret_int HF.out.symm, zBe⟩
  have HF : Hid (lowestV ps ns nd = lowN ps (nd.map (lfN ns)) n) := Lib.hid (by unfold lowestV; rw [har, HP.out, HDL.out, decide_eq_true (show 1 ≤ k by omega)]; rfl)
  have htp : topoOkB ps ns = true := by simp only [areB, Bool.and_eq_true] at har; exact har.2
  obtain ⟨h1n, _, _, _, hok, hev, _⟩ := topo_parts htp
  rw [HP.out] at h1n
  have hk1 : ((k : Int) == 0) = false := by simp; omega
  have HO := Lib.hid hok
  have HV := Lib.hid hev
  have HT := Lib.hid htp
  have HAR := Lib.hid har
  go_enter Tryz.func92, Tryz.ntmps92
  go_wp2_with fail
  refine (areNodes_any A B n c m d ps ns D k e nd _ HN.out HM.out (HR.out.below HL.out zBe) (HQ.out.below HL2.out zBe) (zAi HL.out zBe) (zAi HL2.out zBe) HK.out (HD.out.below HL3.out zBe) (zAi HL3.out zBe)).mono ?_
  rintro e w1 ⟨rfl, hb1⟩
  rw [har]
  have hs1 := hb1.size
  (try simp at hs1)
  have hk10 := fun o => hb1.cell (p := ⟨w.heap.size, o, none⟩) (by simp)
  have hy10 : w.heap.size < w1.heap.size := by omega
  clear har hok hev htp
  go_wp2
  go_loopw [5, 22] (fun v i wr => ∃ s : Nat, s ≤ n ∧ i = .int .i64 s ∧ v = .int .i64 (lowN ps (nd.map (lfN ns)) s) ∧ Below w.heap.size w wr ∧ w.heap.size < wr.heap.size ∧ wr.cell? ⟨w.heap.size, 0, none⟩ = some (.slice A n c) ∧ wr.cell? ⟨w.heap.size, 1, none⟩ = some (.slice B m d)) (fun _ i _ => n - (intOf i).toNat)
  case atStart => exact ⟨0, Nat.zero_le _, rfl, rfl, zBe, hy10, by simp [go_sem, *], by simp [go_sem, *]⟩
  case round =>
   obtain ⟨s, hs, rfl, rfl, hbw, hy0, bx0, bx1⟩ := hrel
   obtain ⟨wo, rfl⟩ : ∃ wo : World, wo = wr := ⟨_, rfl⟩
   by_cases hlt : s < n
   ·have hlt' : (s : Int) < n := by omega
    go_wp2
    go_loopw [7, 27] (fun a v wi => ∃ i : Nat, i ≤ k ∧ v = .int .i64 i ∧ a = .bool (lowTo ps ns nd s i) ∧ Below w.heap.size w wi ∧ w.heap.size < wi.heap.size ∧ wi.cell? ⟨w.heap.size, 0, none⟩ = some (.slice A n c) ∧ wi.cell? ⟨w.heap.size, 1, none⟩ = some (.slice B m d)) (fun _ v _ => k - (intOf v).toNat)
    case atStart => exact ⟨0, Nat.zero_le _, rfl, by simp [lowTo], hbw, hy0, bx0, bx1⟩
    case round =>
    obtain ⟨i, hik, rfl, rfl, hbi, hy0i, bi0, bi1⟩ := hrel
    obtain ⟨wi, rfl⟩ : ∃ wi : World, wi = wr := ⟨_, rfl⟩
    by_cases hlti : i < k
    ·have hlti' : (i : Int) < k := by omega
     obtain ⟨g, z, rfl, hz, d0⟩ := HD.out.int hlti
     have E0 := (hbi.cell (p := ⟨g, i, none⟩) (HL3.out g rfl)).trans d0
     obtain ⟨x, rfl, hxm, _⟩ := nodes_at HAR.out hz
     rw [HQL.out] at hxm
     obtain ⟨g', q, rfl, hqx, c0, c1, c2, c3⟩ := HQ.out.q hxm
     obtain ⟨hlf, hlp⟩ := leaf_at HT.out (by rw [HQL.out]; exact hxm) hqx
     rw [hlf] at c0
     rw [HP.out] at hlp
     have hg' := HL2.out g' rfl
     have C0 := (hbi.cell (p := ⟨g', x * 4, none⟩) hg').trans c0
     have hgr' : g' < wi.heap.size := Nat.lt_of_lt_of_le hg' hbi.size
     have hxm' : (x : Int) < m := by omega
     have hxm0 : (0 : Int) ≤ (x : Int) := by omega
     have HS := Lib.hid (lowTo_succ (ps := ps) (ns := ns) (s := s) hz)
     have HUL : Hid ((upI ps (lfN ns (x : Int))).length ≤ 1048577) := Lib.hid (by have h3 := upI_len HO.out (l := lfN ns (x : Int)) (by rw [HP.out]; exact hlp); have h4 := HN.out; rw [HP.out] at h3; omega)
     generalize hl9 : lfN ns (x : Int) = lf at C0 c0 hlp hlf HUL
     have HL9 := Lib.hid hl9
     have HBW := Lib.hid hbi
     clear hz d0 hqx c0 c1 c2 c3 hbi hlf hl9
     cases hb : lowTo ps ns nd s i
     ·go_wp2
      refine wp_region_below (by kernel_rfl) (by kernel_rfl) (fun W hW => ?_)
      ((try dsimp only); repeat (first | (refine Det0.skip ?_ ?_; (focus (rfl; done)); (try simp only [putA, zgd, zgf, zge])) | (refine Det0.pure ?_ ?_ ?_ ?_; rotate_left; (focus (rfl; done)); (focus ((intro w9 hJ); (skip); go_simp; (first | with_reducible rfl | exact eq_if3 | exact neq_if3 | skip); done)); (try simp only [putA, zgd, zgf, zge])) | (refine Det0.step ?_ ?_ ?_ ?_; rotate_left; (focus (rfl; done)); (focus ((intro w9 K hJ hK); (skip); go_simp; (fail); done)); (try simp only [putA, zgd, zgf, zge]))))
      refine Det0.nil (fun w9 hJ => ?_)
      have hJ0 : w.heap.size < W.heap.size := by rw [hW]; exact hy0i
      have HJ := Lib.hid (show Below w.heap.size w w9 from by have := HBW.out; rw [hW] at hJ; exact zAc (zAc this ((Below.refl _ _).drew)) hJ)
      have z0 := (hJ.cell (p := ⟨w.heap.size, 0, none⟩) hJ0).trans ((congrArg (fun v : World => v.cell? ⟨w.heap.size, 0, none⟩) hW).trans bi0)
      have z1 := (hJ.cell (p := ⟨w.heap.size, 1, none⟩) hJ0).trans ((congrArg (fun v : World => v.cell? ⟨w.heap.size, 1, none⟩) hW).trans bi1)
      have hJS := hJ.size
      have HJS : Hid (wi.heap.size ≤ w9.heap.size) := Lib.hid (by rw [hW] at hJS; exact hJS)
      have HBF := Lib.hid hb
      clear hJ hW hJS hJ0 hb
      go_wp2
      go_roundw
      case rel => exact ⟨i + 1, by omega, by go_num, by rw [HS.out, HBF.out]; rfl, HJ.out, by have := HJS.out; omega, z0, z1⟩
      case measure => simp [intOf]; omega
     ·have HBF := Lib.hid hb
      clear hb
      go_wp2
      go_region_held3 (fun w' => w'.cell? ⟨w.heap.size, 0, none⟩ = some (.slice A n c) ∧ w'.cell? ⟨w.heap.size, 1, none⟩ = some (.slice (some ⟨g', 0, none⟩) m d) ∧ w'.cell? ⟨g', x * 4, none⟩ = some (.int .i64 (lf : Int))) (simp [go_sem, *, World.cell?_alloc_some, World.cell?_setCell_far, Nat.lt_add_right, Nat.ne_of_gt]) (first | (go_at_call 169; refine (above_any A (some ⟨g', 0, none⟩) n c m d ps lf _ HN.out (HR.out.below HL.out (by have := HBW.out; repeat (first | exact Below.refl _ _ | assumption | (refine zAc ?_ (zAd _ _)) | exact zAc (by assumption) (by assumption) | (refine zAc ?_ (zAa _ _)) | (refine zAc ?_ (by assumption)) | (refine Below.setCell ?_ (by simp <;> omega) _) | refine Below.drew ?_))) (zAi HL.out (by have := HBW.out; repeat (first | exact Below.refl _ _ | assumption | (refine zAc ?_ (zAd _ _)) | exact zAc (by assumption) (by assumption) | (refine zAc ?_ (zAa _ _)) | (refine zAc ?_ (by assumption)) | (refine Below.setCell ?_ (by simp <;> omega) _) | refine Below.drew ?_))) HO.out (by omega)).mono ?_; rintro e w2 ⟨v2, rfl, own2, hb2⟩; obtain ⟨Y, cy, rfl, rd2⟩ := zAt own2; have HR2 := Lib.hid rd2; have hs2 := hb2.size; (try simp at hs2); have hk20 := fun o => hb2.cell (p := ⟨w.heap.size, o, none⟩) zOm; have hk21 := fun o => hb2.cell (p := ⟨g', o, none⟩) zOm; clear own2 rd2) | (go_at_call 168; refine (contains_any Y _ cy (upI ps lf) (s : Int) _ HUL.out HR2.out).mono ?_; rintro e w3 ⟨rfl, hw3⟩; have hb3 := below_same hw3; have hs3 := hb3.size; have hk30 := fun o => hb3.cell (p := ⟨w.heap.size, o, none⟩) (show w.heap.size < w2.heap.size by omega); have hk31 := fun o => hb3.cell (p := ⟨g', o, none⟩) (show g' < w2.heap.size by omega); clear hw3))
      go_wp2
      go_roundw
      case rel => exact ⟨i + 1, by omega, by go_num, by rw [HS.out, HBF.out, HL9.out]; simp only [Bool.true_and]; exact congrArg Value.bool (Bool.eq_iff_iff.2 (by rw [hasZ_up]; simp)), by have := HBW.out; repeat (first | exact Below.refl _ _ | assumption | (refine zAc ?_ (zAd _ _)) | exact zAc (by assumption) (by assumption) | (refine zAc ?_ (zAa _ _)) | (refine zAc ?_ (by assumption)) | (refine Below.setCell ?_ (by simp <;> omega) _) | refine Below.drew ?_), by omega, by simp [go_sem, *], by simp [go_sem, *]⟩
      case measure => simp [intOf]; omega
    ·have hik9 : i = k := by omega
     have HLB := Lib.hid (lowTo_all (ps := ps) (ns := ns) (s := s) HDL.out)
     rw [hik9, HLB.out]
     clear hik9 hbw bx0 bx1 hy0
     have HN1 := Lib.hid (lowN_succ ps (nd.map (lfN ns)) s)
     cases hb : lowB ps (nd.map (lfN ns)) s
     ·have HNB : Hid (lowN ps (nd.map (lfN ns)) (s + 1) = lowN ps (nd.map (lfN ns)) s) := Lib.hid (by rw [HN1.out]; exact if_neg (by simp [hb]))
      clear hb
      go_wp2
      refine wp_region_below (by kernel_rfl) (by kernel_rfl) (fun W hW => ?_)
      have X0 : W.cell? ⟨w.heap.size, 0, none⟩ = some (.slice A n c) := by rw [hW]; exact bi0
      have X1 : W.cell? ⟨w.heap.size, 1, none⟩ = some (.slice B m d) := by rw [hW]; exact bi1
      have WS : w.heap.size < W.heap.size := by rw [hW]; exact hy0i
      have WB : Below w.heap.size w W := by rw [hW]; exact hbi.drew
      have RDW := Lib.hid (HR.out.below HL.out WB)
      have HLW := Lib.hid (zAi HL.out WB)
      have HWB := Lib.hid WB
      clear hW WB hbi bi0 bi1
      ((try dsimp only); repeat (first | (refine Det0.skip ?_ ?_; (focus (rfl; done)); (try simp only [putA, zgd, zgf, zge])) | (refine Det0.pure ?_ ?_ ?_ ?_; rotate_left; (focus (rfl; done)); (focus ((intro w9 hJ); (have hk0 := fun o => hJ.cell (p := ⟨w.heap.size, o, none⟩) WS); go_simp; (first | with_reducible rfl | exact eq_if3 | exact neq_if3 | skip); done)); (try simp only [putA, zgd, zgf, zge])) | (refine Det0.step ?_ ?_ ?_ ?_; rotate_left; (focus (rfl; done)); (focus ((intro w9 K hJ hK); (have hk0 := fun o => hJ.cell (p := ⟨w.heap.size, o, none⟩) WS); go_simp; (fail); done)); (try simp only [putA, zgd, zgf, zge]))))
      refine Det0.nil (fun w9 hJ => ?_)
      have HJ := Lib.hid (zAc HWB.out hJ)
      have z0 := (hJ.cell (p := ⟨w.heap.size, 0, none⟩) WS).trans X0
      have z1 := (hJ.cell (p := ⟨w.heap.size, 1, none⟩) WS).trans X1
      have hJS := hJ.size
      have HSZ9 : Hid (w.heap.size < w9.heap.size) := Lib.hid (by omega)
      clear hJ X0 X1 hJS WS
      go_wp2
      go_roundw
      case rel => exact ⟨s + 1, by omega, by go_num, by rw [HNB.out], HJ.out, HSZ9.out, z0, z1⟩
      case measure => simp [intOf]; omega
     ·by_cases hneg : lowN ps (nd.map (lfN ns)) s < 0
      ·have HNB : Hid (lowN ps (nd.map (lfN ns)) (s + 1) = (s : Int)) := Lib.hid (by rw [HN1.out]; exact if_pos ⟨hb, Or.inl hneg⟩)
       clear hb
       generalize lowN ps (nd.map (lfN ns)) s = best at hneg HN1
       go_wp2
       refine wp_region_below (by kernel_rfl) (by kernel_rfl) (fun W hW => ?_)
       have X0 : W.cell? ⟨w.heap.size, 0, none⟩ = some (.slice A n c) := by rw [hW]; exact bi0
       have X1 : W.cell? ⟨w.heap.size, 1, none⟩ = some (.slice B m d) := by rw [hW]; exact bi1
       have WS : w.heap.size < W.heap.size := by rw [hW]; exact hy0i
       have WB : Below w.heap.size w W := by rw [hW]; exact hbi.drew
       have RDW := Lib.hid (HR.out.below HL.out WB)
       have HLW := Lib.hid (zAi HL.out WB)
       have HWB := Lib.hid WB
       clear hW WB hbi bi0 bi1
       ((try dsimp only); repeat (first | (refine Det0.skip ?_ ?_; (focus (rfl; done)); (try simp only [putA, zgd, zgf, zge])) | (refine Det0.pure ?_ ?_ ?_ ?_; rotate_left; (focus (rfl; done)); (focus ((intro w9 hJ); (have hk0 := fun o => hJ.cell (p := ⟨w.heap.size, o, none⟩) WS); go_simp; (first | with_reducible rfl | exact eq_if3 | exact neq_if3 | skip); done)); (try simp only [putA, zgd, zgf, zge])) | (refine Det0.step ?_ ?_ ?_ ?_; rotate_left; (focus (rfl; done)); (focus ((intro w9 K hJ hK); (have hk0 := fun o => hJ.cell (p := ⟨w.heap.size, o, none⟩) WS); go_simp; (fail); done)); (try simp only [putA, zgd, zgf, zge]))))
       refine Det0.nil (fun w9 hJ => ?_)
       have HJ := Lib.hid (zAc HWB.out hJ)
       have z0 := (hJ.cell (p := ⟨w.heap.size, 0, none⟩) WS).trans X0
       have z1 := (hJ.cell (p := ⟨w.heap.size, 1, none⟩) WS).trans X1
       have hJS := hJ.size
       have HSZ9 : Hid (w.heap.size < w9.heap.size) := Lib.hid (by omega)
       clear hJ X0 X1 hJS WS
       go_wp2
       go_roundw
       case rel => exact ⟨s + 1, by omega, by go_num, by rw [HNB.out], HJ.out, HSZ9.out, z0, z1⟩
       case measure => simp [intOf]; omega
      ·obtain ⟨b, hbe, hbs⟩ := lowN_lt hneg
       have HNB : Hid (lowN ps (nd.map (lfN ns)) (s + 1) = if lev ps s ≤ lev ps b then (s : Int) else (b : Int)) := Lib.hid (lowN_step hb hbe)
       rw [hbe]
       have hneg' : ¬ ((b : Int) < 0) := by omega
       clear hb hneg hbe HN1
       go_wp2
       refine wp_region_below (by kernel_rfl) (by kernel_rfl) (fun W hW => ?_)
       have X0 : W.cell? ⟨w.heap.size, 0, none⟩ = some (.slice A n c) := by rw [hW]; exact bi0
       have X1 : W.cell? ⟨w.heap.size, 1, none⟩ = some (.slice B m d) := by rw [hW]; exact bi1
       have WS : w.heap.size < W.heap.size := by rw [hW]; exact hy0i
       have WB : Below w.heap.size w W := by rw [hW]; exact hbi.drew
       have RDW := Lib.hid (HR.out.below HL.out WB)
       have HLW := Lib.hid (zAi HL.out WB)
       have HWB := Lib.hid WB
       clear hW WB hbi bi0 bi1
       ((try dsimp only); repeat (first | (refine Det0.skip ?_ ?_; (focus (rfl; done)); (try simp only [putA, zgd, zgf, zge])) | (refine Det0.pure ?_ ?_ ?_ ?_; rotate_left; (focus (rfl; done)); (focus ((intro w9 hJ); (have hk0 := fun o => hJ.cell (p := ⟨w.heap.size, o, none⟩) WS); go_simp; (first | with_reducible rfl | exact eq_if3 | exact neq_if3 | skip); done)); (try simp only [putA, zgd, zgf, zge])) | (refine Det0.step ?_ ?_ ?_ ?_; rotate_left; (focus (rfl; done)); (focus ((intro w9 K hJ hK); (have hk0 := fun o => hJ.cell (p := ⟨w.heap.size, o, none⟩) WS); go_simp; ((go_at_call 91; refine (level_any A B n c m d ps _ _ HN.out h1n (RDW.out.below HLW.out hJ) (zAi HLW.out hJ) HO.out HV.out (by omega)).mono ?_; rintro e w1 ⟨rfl, hb1⟩; exact hK.out _ (zAc hJ hb1))); done)); (try simp only [putA, zgd, zgf, zge]))))
       refine Det0.nil (fun w9 hJ => ?_)
       have HJ := Lib.hid (zAc HWB.out hJ)
       have z0 := (hJ.cell (p := ⟨w.heap.size, 0, none⟩) WS).trans X0
       have z1 := (hJ.cell (p := ⟨w.heap.size, 1, none⟩) WS).trans X1
       have hJS := hJ.size
       have HSZ9 : Hid (w.heap.size < w9.heap.size) := Lib.hid (by omega)
       by_cases hle : lev ps s ≤ lev ps b
       ·have HNC : Hid (lowN ps (nd.map (lfN ns)) (s + 1) = (s : Int)) := Lib.hid (by rw [HNB.out, if_pos hle])
        clear HNB
        clear hJ X0 X1 hJS WS
        go_wp2
        go_roundw
        case rel => exact ⟨s + 1, by omega, by go_num, by rw [HNC.out], HJ.out, HSZ9.out, z0, z1⟩
        case measure => simp [intOf]; omega
       ·have HNC : Hid (lowN ps (nd.map (lfN ns)) (s + 1) = (b : Int)) := Lib.hid (by rw [HNB.out, if_neg hle])
        have hle' : lev ps b < lev ps s := by omega
        clear HNB hle
        clear hJ X0 X1 hJS WS
        go_wp2
        go_roundw
        case rel => exact ⟨s + 1, by omega, by go_num, by rw [HNC.out], HJ.out, HSZ9.out, z0, z1⟩
        case measure => simp [intOf]; omega
   ·have hs9 : s = n := by omega
    have HB := Lib.hid hbw
    subst hs9
    clear hbw
    go_wp2
    go_ret
    exact ⟨ret_int HF.out.symm, HB.out⟩
set_option maxHeartbeats 8000000 in
theorem slowest_any (A B : Option Addr) (n c m d : Nat) (ps : List Int) (ns : List Q) (D : Option Addr) (k e : Nat) (nd : List Int) (w : World) (hn : n ≤ 1048576) (hm : m ≤ 1048576) (hr : Rd w A n 1 (ints ps)) (hq : Rd w B m 4 (flat ns)) (hl : ∀ g, A = some ⟨g, 0, none⟩ → g < w.heap.size) (hl2 : ∀ g, B = some ⟨g, 0, none⟩ → g < w.heap.size) (hk : k ≤ 1048576) (hd : Rd w D k 1 (ints nd)) (hl3 : ∀ g, D = some ⟨g, 0, none⟩ → g < w.heap.size) :
  Calls Tryz.prog 86 #[.agg #[.slice A n c, .slice B m d], .slice D k e] w fun e w' => e = .returned (.int .i64 (lowestV ps ns nd)) ∧ Below w.heap.size w w' := by
 have hpl := hr.ilen
 have hql : ns.length = m := by have := hq.1; rw [flat_len] at this; omega
 have hn9 : n ≤ 9223372036854775807 := by omega
 have hm9 : m ≤ 9223372036854775807 := by omega
 have HN := Lib.hid hn
 have HM := Lib.hid hm
 have HR := Lib.hid hr
 have HQ := Lib.hid hq
 have HL := Lib.hid hl
 have HL2 := Lib.hid hl2
 have HP := Lib.hid hpl
 have HQL := Lib.hid hql
 clear hn hm hr hq hl hl2 hpl hql
 have hdl := hd.ilen
 have hk9 : k ≤ 9223372036854775807 := by omega
 have HK := Lib.hid hk
 have HD := Lib.hid hd
 have HL3 := Lib.hid hl3
 have HDL := Lib.hid hdl
 clear hk hd hl3 hdl
 cases har : areB ps ns nd
 ·have HF : Hid (lowestV ps ns nd = -1) := Lib.hid (by unfold lowestV; rw [har]; rfl)
  go_enter Tryz.func86, Tryz.ntmps86
  go_wp2_with fail
  refine (sNodes_any A B n c m d ps ns D k e nd _ HN.out HM.out (HR.out.below HL.out zBe) (HQ.out.below HL2.out zBe) (zAi HL.out zBe) (zAi HL2.out zBe) HK.out (HD.out.below HL3.out zBe) (zAi HL3.out zBe)).mono ?_
  rintro e w1 ⟨rfl, hb1⟩
  rw [har]
  go_wp2
  go_ret
  exact ⟨ret_int HF.out.symm, zBe⟩
 ·by_cases hk0 : k = 0
  ·have HF : Hid (lowestV ps ns nd = -1) := Lib.hid (by unfold lowestV; rw [har, show nd.length = 0 by rw [HDL.out]; exact hk0]; rfl)
   subst hk0
   go_enter Tryz.func86, Tryz.ntmps86
   go_wp2_with fail
   refine (sNodes_any A B n c m d ps ns D 0 e nd _ HN.out HM.out (HR.out.below HL.out zBe) (HQ.out.below HL2.out zBe) (zAi HL.out zBe) (zAi HL2.out zBe) HK.out (HD.out.below HL3.out zBe) (zAi HL3.out zBe)).mono ?_
   rintro e w1 ⟨rfl, hb1⟩
   rw [har]
   go_wp2
   go_ret
   exact ⟨ret_int HF.out.symm, zBe⟩
  have HF : Hid (lowestV ps ns nd = lowN ps (nd.map (lfN ns)) n) := Lib.hid (by unfold lowestV; rw [har, HP.out, HDL.out, decide_eq_true (show 1 ≤ k by omega)]; rfl)
  have htp : topoOkB ps ns = true := by simp only [areB, Bool.and_eq_true] at har; exact har.2
  obtain ⟨h1n, _, _, _, hok, hev, _⟩ := topo_parts htp
  rw [HP.out] at h1n
  have hk1 : ((k : Int) == 0) = false := by simp; omega
  have HO := Lib.hid hok
  have HV := Lib.hid hev
  have HT := Lib.hid htp
  have HAR := Lib.hid har
  go_enter Tryz.func86, Tryz.ntmps86
  go_wp2_with fail
  refine (sNodes_any A B n c m d ps ns D k e nd _ HN.out HM.out (HR.out.below HL.out zBe) (HQ.out.below HL2.out zBe) (zAi HL.out zBe) (zAi HL2.out zBe) HK.out (HD.out.below HL3.out zBe) (zAi HL3.out zBe)).mono ?_
  rintro e w1 ⟨rfl, hb1⟩
  rw [har]
  have hs1 := hb1.size
  (try simp at hs1)
  have hk10 := fun o => hb1.cell (p := ⟨w.heap.size, o, none⟩) (by simp)
  have hy10 : w.heap.size < w1.heap.size := by omega
  clear har hok hev htp
  go_wp2
  go_loopw [5, 23] (fun v i wr => ∃ s : Nat, s ≤ n ∧ i = .int .i64 s ∧ v = .int .i64 (lowN ps (nd.map (lfN ns)) s) ∧ Below w.heap.size w wr ∧ w.heap.size < wr.heap.size ∧ wr.cell? ⟨w.heap.size, 0, none⟩ = some (.slice A n c) ∧ wr.cell? ⟨w.heap.size, 1, none⟩ = some (.slice B m d)) (fun _ i _ => n - (intOf i).toNat)
  case atStart => exact ⟨0, Nat.zero_le _, rfl, rfl, zBe, hy10, by simp [go_sem, *], by simp [go_sem, *]⟩
  case round =>
   obtain ⟨s, hs, rfl, rfl, hbw, hy0, bx0, bx1⟩ := hrel
   obtain ⟨wo, rfl⟩ : ∃ wo : World, wo = wr := ⟨_, rfl⟩
   by_cases hlt : s < n
   ·have hlt' : (s : Int) < n := by omega
    go_wp2
    go_loopw [7, 28] (fun a v wi => ∃ i : Nat, i ≤ k ∧ v = .int .i64 i ∧ a = .bool (lowTo ps ns nd s i) ∧ Below w.heap.size w wi ∧ w.heap.size < wi.heap.size ∧ wi.cell? ⟨w.heap.size, 0, none⟩ = some (.slice A n c) ∧ wi.cell? ⟨w.heap.size, 1, none⟩ = some (.slice B m d)) (fun _ v _ => k - (intOf v).toNat)
    case atStart => exact ⟨0, Nat.zero_le _, rfl, by simp [lowTo], hbw, hy0, bx0, bx1⟩
    case round =>
    obtain ⟨i, hik, rfl, rfl, hbi, hy0i, bi0, bi1⟩ := hrel
    obtain ⟨wi, rfl⟩ : ∃ wi : World, wi = wr := ⟨_, rfl⟩
    by_cases hlti : i < k
    ·have hlti' : (i : Int) < k := by omega
     obtain ⟨g, z, rfl, hz, d0⟩ := HD.out.int hlti
     have E0 := (hbi.cell (p := ⟨g, i, none⟩) (HL3.out g rfl)).trans d0
     obtain ⟨x, rfl, hxm, _⟩ := nodes_at HAR.out hz
     rw [HQL.out] at hxm
     obtain ⟨g', q, rfl, hqx, c0, c1, c2, c3⟩ := HQ.out.q hxm
     obtain ⟨hlf, hlp⟩ := leaf_at HT.out (by rw [HQL.out]; exact hxm) hqx
     rw [hlf] at c0
     rw [HP.out] at hlp
     have hg' := HL2.out g' rfl
     have C0 := (hbi.cell (p := ⟨g', x * 4, none⟩) hg').trans c0
     have hgr' : g' < wi.heap.size := Nat.lt_of_lt_of_le hg' hbi.size
     have hxm' : (x : Int) < m := by omega
     have hxm0 : (0 : Int) ≤ (x : Int) := by omega
     have HS := Lib.hid (lowTo_succ (ps := ps) (ns := ns) (s := s) hz)
     have HUL : Hid ((upI ps (lfN ns (x : Int))).length ≤ 1048577) := Lib.hid (by have h3 := upI_len HO.out (l := lfN ns (x : Int)) (by rw [HP.out]; exact hlp); have h4 := HN.out; rw [HP.out] at h3; omega)
     generalize hl9 : lfN ns (x : Int) = lf at C0 c0 hlp hlf HUL
     have HL9 := Lib.hid hl9
     have HBW := Lib.hid hbi
     clear hz d0 hqx c0 c1 c2 c3 hbi hlf hl9
     go_wp2
     go_region_held3 (fun w' => w'.cell? ⟨w.heap.size, 0, none⟩ = some (.slice A n c) ∧ w'.cell? ⟨w.heap.size, 1, none⟩ = some (.slice (some ⟨g', 0, none⟩) m d) ∧ w'.cell? ⟨g', x * 4, none⟩ = some (.int .i64 (lf : Int))) (simp [go_sem, *, World.cell?_alloc_some, World.cell?_setCell_far, Nat.lt_add_right, Nat.ne_of_gt]) (first | (go_at_call 162; refine (sUp_any A (some ⟨g', 0, none⟩) n c m d ps lf _ HN.out (HR.out.below HL.out (by have := HBW.out; repeat (first | exact Below.refl _ _ | assumption | (refine zAc ?_ (zAd _ _)) | exact zAc (by assumption) (by assumption) | (refine zAc ?_ (zAa _ _)) | (refine zAc ?_ (by assumption)) | (refine Below.setCell ?_ (by simp <;> omega) _) | refine Below.drew ?_))) (zAi HL.out (by have := HBW.out; repeat (first | exact Below.refl _ _ | assumption | (refine zAc ?_ (zAd _ _)) | exact zAc (by assumption) (by assumption) | (refine zAc ?_ (zAa _ _)) | (refine zAc ?_ (by assumption)) | (refine Below.setCell ?_ (by simp <;> omega) _) | refine Below.drew ?_))) HO.out (by omega)).mono ?_; rintro e w2 ⟨v2, rfl, own2, hb2⟩; obtain ⟨Y, cy, rfl, rd2⟩ := zAt own2; have HR2 := Lib.hid rd2; have hs2 := hb2.size; (try simp at hs2); have hk20 := fun o => hb2.cell (p := ⟨w.heap.size, o, none⟩) zOm; have hk21 := fun o => hb2.cell (p := ⟨g', o, none⟩) zOm; clear own2 rd2) | (go_at_call 161; refine (shas_any Y _ cy (upI ps lf) (s : Int) _ HUL.out HR2.out).mono ?_; rintro e w3 ⟨rfl, hw3⟩; have hb3 := below_same hw3; have hs3 := hb3.size; have hk30 := fun o => hb3.cell (p := ⟨w.heap.size, o, none⟩) (show w.heap.size < w2.heap.size by omega); have hk31 := fun o => hb3.cell (p := ⟨g', o, none⟩) (show g' < w2.heap.size by omega); clear hw3))
     cases hm : hasZ (upI ps lf) (s : Int)
     ·have HM9 : Hid (decide (s ∈ up ps lf) = false) := Lib.hid (by rw [decide_eq_false_iff_not]; intro h; rw [hasZ_up.2 h] at hm; cases hm)
      clear hm
      go_wp2
      go_roundw
      case rel => exact ⟨i + 1, by omega, by go_num, by rw [HS.out, HL9.out, HM9.out, Bool.and_false], by have := HBW.out; repeat (first | exact Below.refl _ _ | assumption | (refine zAc ?_ (zAd _ _)) | exact zAc (by assumption) (by assumption) | (refine zAc ?_ (zAa _ _)) | (refine zAc ?_ (by assumption)) | (refine Below.setCell ?_ (by simp <;> omega) _) | refine Below.drew ?_), by omega, by simp [go_sem, *], by simp [go_sem, *]⟩
      case measure => simp [intOf]; omega
     ·have HM9 : Hid (decide (s ∈ up ps lf) = true) := Lib.hid (by rw [decide_eq_true_eq]; exact hasZ_up.1 hm)
      clear hm
      go_wp2
      go_roundw
      case rel => exact ⟨i + 1, by omega, by go_num, by rw [HS.out, HL9.out, HM9.out, Bool.and_true], by have := HBW.out; repeat (first | exact Below.refl _ _ | assumption | (refine zAc ?_ (zAd _ _)) | exact zAc (by assumption) (by assumption) | (refine zAc ?_ (zAa _ _)) | (refine zAc ?_ (by assumption)) | (refine Below.setCell ?_ (by simp <;> omega) _) | refine Below.drew ?_), by omega, by simp [go_sem, *], by simp [go_sem, *]⟩
      case measure => simp [intOf]; omega
    ·have hik9 : i = k := by omega
     have HLB := Lib.hid (lowTo_all (ps := ps) (ns := ns) (s := s) HDL.out)
     rw [hik9, HLB.out]
     clear hik9 hbw bx0 bx1 hy0
     have HN1 := Lib.hid (lowN_succ ps (nd.map (lfN ns)) s)
     cases hb : lowB ps (nd.map (lfN ns)) s
     ·have HNB : Hid (lowN ps (nd.map (lfN ns)) (s + 1) = lowN ps (nd.map (lfN ns)) s) := Lib.hid (by rw [HN1.out]; exact if_neg (by simp [hb]))
      clear hb
      go_wp2
      refine wp_region_below (by kernel_rfl) (by kernel_rfl) (fun W hW => ?_)
      have X0 : W.cell? ⟨w.heap.size, 0, none⟩ = some (.slice A n c) := by rw [hW]; exact bi0
      have X1 : W.cell? ⟨w.heap.size, 1, none⟩ = some (.slice B m d) := by rw [hW]; exact bi1
      have WS : w.heap.size < W.heap.size := by rw [hW]; exact hy0i
      have WB : Below w.heap.size w W := by rw [hW]; exact hbi.drew
      have RDW := Lib.hid (HR.out.below HL.out WB)
      have HLW := Lib.hid (zAi HL.out WB)
      have HWB := Lib.hid WB
      clear hW WB hbi bi0 bi1
      ((try dsimp only); repeat (first | (refine Det0.skip ?_ ?_; (focus (rfl; done)); (try simp only [putA, zgd, zgf, zge])) | (refine Det0.pure ?_ ?_ ?_ ?_; rotate_left; (focus (rfl; done)); (focus ((intro w9 hJ); (have hk0 := fun o => hJ.cell (p := ⟨w.heap.size, o, none⟩) WS); go_simp; (first | with_reducible rfl | exact eq_if3 | exact neq_if3 | skip); done)); (try simp only [putA, zgd, zgf, zge])) | (refine Det0.step ?_ ?_ ?_ ?_; rotate_left; (focus (rfl; done)); (focus ((intro w9 K hJ hK); (have hk0 := fun o => hJ.cell (p := ⟨w.heap.size, o, none⟩) WS); go_simp; (fail); done)); (try simp only [putA, zgd, zgf, zge]))))
      refine Det0.nil (fun w9 hJ => ?_)
      have HJ := Lib.hid (zAc HWB.out hJ)
      have z0 := (hJ.cell (p := ⟨w.heap.size, 0, none⟩) WS).trans X0
      have z1 := (hJ.cell (p := ⟨w.heap.size, 1, none⟩) WS).trans X1
      have hJS := hJ.size
      have HSZ9 : Hid (w.heap.size < w9.heap.size) := Lib.hid (by omega)
      clear hJ X0 X1 hJS WS
      go_wp2
      go_roundw
      case rel => exact ⟨s + 1, by omega, by go_num, by rw [HNB.out], HJ.out, HSZ9.out, z0, z1⟩
      case measure => simp [intOf]; omega
     ·by_cases hneg : lowN ps (nd.map (lfN ns)) s < 0
      ·have HNB : Hid (lowN ps (nd.map (lfN ns)) (s + 1) = (s : Int)) := Lib.hid (by rw [HN1.out]; exact if_pos ⟨hb, Or.inl hneg⟩)
       clear hb
       generalize lowN ps (nd.map (lfN ns)) s = best at hneg HN1
       go_wp2
       refine wp_region_below (by kernel_rfl) (by kernel_rfl) (fun W hW => ?_)
       have X0 : W.cell? ⟨w.heap.size, 0, none⟩ = some (.slice A n c) := by rw [hW]; exact bi0
       have X1 : W.cell? ⟨w.heap.size, 1, none⟩ = some (.slice B m d) := by rw [hW]; exact bi1
       have WS : w.heap.size < W.heap.size := by rw [hW]; exact hy0i
       have WB : Below w.heap.size w W := by rw [hW]; exact hbi.drew
       have RDW := Lib.hid (HR.out.below HL.out WB)
       have HLW := Lib.hid (zAi HL.out WB)
       have HWB := Lib.hid WB
       clear hW WB hbi bi0 bi1
       ((try dsimp only); repeat (first | (refine Det0.skip ?_ ?_; (focus (rfl; done)); (try simp only [putA, zgd, zgf, zge])) | (refine Det0.pure ?_ ?_ ?_ ?_; rotate_left; (focus (rfl; done)); (focus ((intro w9 hJ); (have hk0 := fun o => hJ.cell (p := ⟨w.heap.size, o, none⟩) WS); go_simp; (first | with_reducible rfl | exact eq_if3 | exact neq_if3 | skip); done)); (try simp only [putA, zgd, zgf, zge])) | (refine Det0.step ?_ ?_ ?_ ?_; rotate_left; (focus (rfl; done)); (focus ((intro w9 K hJ hK); (have hk0 := fun o => hJ.cell (p := ⟨w.heap.size, o, none⟩) WS); go_simp; (fail); done)); (try simp only [putA, zgd, zgf, zge]))))
       refine Det0.nil (fun w9 hJ => ?_)
       have HJ := Lib.hid (zAc HWB.out hJ)
       have z0 := (hJ.cell (p := ⟨w.heap.size, 0, none⟩) WS).trans X0
       have z1 := (hJ.cell (p := ⟨w.heap.size, 1, none⟩) WS).trans X1
       have hJS := hJ.size
       have HSZ9 : Hid (w.heap.size < w9.heap.size) := Lib.hid (by omega)
       clear hJ X0 X1 hJS WS
       go_wp2
       go_roundw
       case rel => exact ⟨s + 1, by omega, by go_num, by rw [HNB.out], HJ.out, HSZ9.out, z0, z1⟩
       case measure => simp [intOf]; omega
      ·obtain ⟨b, hbe, hbs⟩ := lowN_lt hneg
       have HNB : Hid (lowN ps (nd.map (lfN ns)) (s + 1) = if lev ps s ≤ lev ps b then (s : Int) else (b : Int)) := Lib.hid (lowN_step hb hbe)
       rw [hbe]
       have hneg' : ¬ ((b : Int) < 0) := by omega
       clear hb hneg hbe HN1
       go_wp2
       refine wp_region_below (by kernel_rfl) (by kernel_rfl) (fun W hW => ?_)
       have X0 : W.cell? ⟨w.heap.size, 0, none⟩ = some (.slice A n c) := by rw [hW]; exact bi0
       have X1 : W.cell? ⟨w.heap.size, 1, none⟩ = some (.slice B m d) := by rw [hW]; exact bi1
       have WS : w.heap.size < W.heap.size := by rw [hW]; exact hy0i
       have WB : Below w.heap.size w W := by rw [hW]; exact hbi.drew
       have RDW := Lib.hid (HR.out.below HL.out WB)
       have HLW := Lib.hid (zAi HL.out WB)
       have HWB := Lib.hid WB
       clear hW WB hbi bi0 bi1
       ((try dsimp only); repeat (first | (refine Det0.skip ?_ ?_; (focus (rfl; done)); (try simp only [putA, zgd, zgf, zge])) | (refine Det0.pure ?_ ?_ ?_ ?_; rotate_left; (focus (rfl; done)); (focus ((intro w9 hJ); (have hk0 := fun o => hJ.cell (p := ⟨w.heap.size, o, none⟩) WS); go_simp; (first | with_reducible rfl | exact eq_if3 | exact neq_if3 | skip); done)); (try simp only [putA, zgd, zgf, zge])) | (refine Det0.step ?_ ?_ ?_ ?_; rotate_left; (focus (rfl; done)); (focus ((intro w9 K hJ hK); (have hk0 := fun o => hJ.cell (p := ⟨w.heap.size, o, none⟩) WS); go_simp; ((go_at_call 85; refine (slevel_any n A B n c m d ps _ _ (Nat.sub_le _ _) HN.out (RDW.out.below HLW.out hJ) (zAi HLW.out hJ) HO.out (by omega)).mono ?_; rintro e w1 ⟨rfl, hb1⟩; exact hK.out _ (zAc hJ hb1))); done)); (try simp only [putA, zgd, zgf, zge]))))
       refine Det0.nil (fun w9 hJ => ?_)
       have HJ := Lib.hid (zAc HWB.out hJ)
       have z0 := (hJ.cell (p := ⟨w.heap.size, 0, none⟩) WS).trans X0
       have z1 := (hJ.cell (p := ⟨w.heap.size, 1, none⟩) WS).trans X1
       have hJS := hJ.size
       have HSZ9 : Hid (w.heap.size < w9.heap.size) := Lib.hid (by omega)
       by_cases hle : lev ps s ≤ lev ps b
       ·have HNC : Hid (lowN ps (nd.map (lfN ns)) (s + 1) = (s : Int)) := Lib.hid (by rw [HNB.out, if_pos hle])
        clear HNB
        clear hJ X0 X1 hJS WS
        go_wp2
        go_roundw
        case rel => exact ⟨s + 1, by omega, by go_num, by rw [HNC.out], HJ.out, HSZ9.out, z0, z1⟩
        case measure => simp [intOf]; omega
       ·have HNC : Hid (lowN ps (nd.map (lfN ns)) (s + 1) = (b : Int)) := Lib.hid (by rw [HNB.out, if_neg hle])
        have hle' : lev ps b < lev ps s := by omega
        clear HNB hle
        clear hJ X0 X1 hJS WS
        go_wp2
        go_roundw
        case rel => exact ⟨s + 1, by omega, by go_num, by rw [HNC.out], HJ.out, HSZ9.out, z0, z1⟩
        case measure => simp [intOf]; omega
   ·have hs9 : s = n := by omega
    have HB := Lib.hid hbw
    subst hs9
    clear hbw
    go_wp2
    go_ret
    exact ⟨ret_int HF.out.symm, HB.out⟩
end Go.Proofs.YtnphjhbfpoekpaaGreat
