import Derived.Test.YtnphjhbfpoekpaaGreatApPl
import Derived.Test.YtnphjhbfpoekpaaGreatA13Pl
import Derived.Deep.RegionHeld3
namespace Go.Proofs.YtnphjhbfpoekpaaGreat
set_option linter.unusedSimpArgs false
set_option linter.unusedVariables false
set_option linter.unnecessarySimpa false
open Go.RowKit
theorem flat_one {ps : List Q} : ∀ u ∈ flat ps, u.oneCell' = true := by
 intro u hu
 unfold flat at hu
 obtain ⟨q, _, h2⟩ := List.mem_flatMap.1 hu
 simp only [Q.cells, List.mem_cons, List.not_mem_nil, or_false] at h2
 rcases h2 with rfl | rfl | rfl | rfl <;> rfl
theorem ints_one {ps : List Int} : ∀ u ∈ ints ps, u.oneCell' = true := by
 intro u hu
 unfold ints at hu
 obtain ⟨q, _, rfl⟩ := List.mem_map.1 hu
 rfl
theorem bools_one {bs : List Bool} : ∀ u ∈ bools bs, u.oneCell' = true := by
 intro u hu
 unfold bools at hu
 obtain ⟨q, _, rfl⟩ := List.mem_map.1 hu
 rfl
def adr (X : Option Addr) (m c : Nat) : Prop := (X = none ∧ m = 0 ∧ c = 0) ∨ ∃ g, X = some ⟨g, 0, none⟩
set_option maxHeartbeats 2000000 in
theorem copyInts_any (A : Option Addr) (n c : Nat) (zs : List Int) (w : World) (hn : n ≤ 1048576) (hA : adr A n c) (hr : Rd w A n 1 (ints zs)) (hl : ∀ g, A = some ⟨g, 0, none⟩ → g < w.heap.size) :
  Calls Tryz.prog 186 #[.slice A n c] w fun e w' => ∃ v, e = .returned (v) ∧ w'.ownsRow w.heap.size 3 1 v n (ints zs) ∧ Below w.heap.size w w' := by
 obtain ⟨i0, hi, hz0, hz1, hz2⟩ := info_parts infoI
 have HN := Lib.hid hn
 have HA := Lib.hid hA
 have HR := Lib.hid hr
 have HL := Lib.hid hl
 have hm9 : n ≤ 9223372036854775807 := by omega
 clear hn hA hr hl
 go_enter Tryz.func186, Tryz.ntmps186
 go_wp2_with (at_builtin; refine zAw rfl _ _ 23 rfl (w.heap.size) 3 i0 (.int .i64 0) 1 8 Tryz.underlying23 hi hz0 hz1 hz2 rfl (by decide) (.slice none 0 0) 0 [] rfl ?ca A n c (ints zs) rfl HA.out ?cb ints_one ?cc ?cd ?ce ?_)
 try case ca => exact own_nil _ _ _ _
 try case cb => exact HR.out.below HL.out (Below.refl _ _)
 try case cc => unfold maxLen; have := HN.out; omega
 try case cd => have := HN.out; omega
 try case ce => first | omega | (simp <;> omega)
 intro v1 w1 own1 hg1 hat1
 (try rw [List.nil_append] at own1)
 (try simp only [Nat.zero_add] at own1)
 have hB1 : Below w.heap.size w w1 := Below.grown (Below.refl _ _) hg1 (by first | exact Nat.le_refl _ | (simp <;> omega)) (fun k hk => by first | (cases hk; done) | (have hk9 : w.heap.size = k := Option.some.inj hk; omega))
 obtain ⟨X1, c1, rfl, _⟩ := zAt own1
 have O1 := Lib.hid own1
 have B1 := Lib.hid hB1
 clear own1 hB1 hg1 hat1 hi hz0 hz1 hz2
 go_wp2
 go_ret
 exact ⟨_, rfl, zAn O1.out (by omega), B1.out⟩
set_option maxHeartbeats 2000000 in
theorem copyProf_any (A : Option Addr) (n c : Nat) (ps : List Q) (w : World) (hn : n ≤ 1048576) (hA : adr A n c) (hr : Rd w A n 4 (flat ps)) (hl : ∀ g, A = some ⟨g, 0, none⟩ → g < w.heap.size) :
  Calls Tryz.prog 213 #[.agg #[.slice A n c]] w fun e w' => ∃ v, e = .returned (.agg #[v]) ∧ w'.ownsRow w.heap.size 177 4 v n (flat ps) ∧ Below w.heap.size w w' := by
 obtain ⟨i0, hi, hz0, hz1, hz2⟩ := info_parts infoPt
 have HN := Lib.hid hn
 have HA := Lib.hid hA
 have HR := Lib.hid hr
 have HL := Lib.hid hl
 have hm9 : n ≤ 9223372036854775807 := by omega
 clear hn hA hr hl
 go_enter Tryz.func213, Tryz.ntmps213
 go_wp2_with (at_builtin; refine zAw rfl _ _ 29 rfl (w.heap.size + 1 + 1) 177 i0 (.agg #[.int .i64 0, .int .i64 0, .int .i64 0, .int .i64 0]) 4 32 Tryz.underlying29 hi hz0 hz1 hz2 rfl (by decide) (.slice none 0 0) 0 [] rfl ?ca A n c (flat ps) rfl HA.out ?cb flat_one ?cc ?cd ?ce ?_)
 try case ca => exact own_nil _ _ _ _
 try case cb => exact HR.out.below HL.out (zAc (zAc (Below.refl _ _) (zAa _ _)) (zAa _ _))
 try case cc => unfold maxLen; have := HN.out; omega
 try case cd => have := HN.out; omega
 try case ce => first | omega | (simp <;> omega)
 intro v1 w1 own1 hg1 hat1
 (try rw [List.nil_append] at own1)
 (try simp only [Nat.zero_add] at own1)
 have hB1 : Below w.heap.size w w1 := Below.grown (zAc (zAc (Below.refl _ _) (zAa _ _)) (zAa _ _)) hg1 (by first | exact Nat.le_refl _ | (simp <;> omega)) (fun k hk => by first | (cases hk; done) | (have hk9 : w.heap.size + 1 + 1 = k := Option.some.inj hk; omega))
 obtain ⟨X1, c1, rfl, _⟩ := zAt own1
 have bx1 := zAr (zAk (w := w.alloc (.cells #[.slice A n c] 31)) (.cells #[.slice none 0 0] 31) (k := w.heap.size + 1) (by simp)) hg1 (fun k hk => by first | (cases hk; done) | (have hk9 : w.heap.size + 1 + 1 = k := Option.some.inj hk; omega))
 have e0 := zAb bx1 0 rfl
 have f0 := zAh bx1
 have hy1 := zAf bx1
 have O1 := Lib.hid own1
 have B1 := Lib.hid hB1
 clear own1 hB1 hg1 hat1 bx1 hi hz0 hz1 hz2
 go_wp2
 (try go_light)
 refine bodyPost_ret (v := .agg #[.slice X1 n c1]) (by simp [results, Tryz.results213, go_sem, *]) rfl ?_
 exact ⟨_, rfl, zAn (zAo O1.out (fun k hk => by have := own_ge O1.out k hk; show k ≠ w.heap.size + 1; omega) _) (by omega), B1.out.setCell (by show w.heap.size ≤ w.heap.size + 1; omega) _⟩
set_option maxHeartbeats 2000000 in
theorem sProf_any (A : Option Addr) (n c : Nat) (ps : List Q) (w : World) (hn : n ≤ 1048576) (hA : adr A n c) (hr : Rd w A n 4 (flat ps)) (hl : ∀ g, A = some ⟨g, 0, none⟩ → g < w.heap.size) :
  Calls Tryz.prog 207 #[.agg #[.slice A n c]] w fun e w' => ∃ v, e = .returned (.agg #[v]) ∧ w'.ownsRow w.heap.size 177 4 v n (flat ps) ∧ Below w.heap.size w w' := by
 obtain ⟨i0, hi, hz0, hz1, hz2⟩ := info_parts infoPt
 have HN := Lib.hid hn
 have HA := Lib.hid hA
 have HR := Lib.hid hr
 have HL := Lib.hid hl
 have hm9 : n ≤ 9223372036854775807 := by omega
 clear hn hA hr hl
 go_enter Tryz.func207, Tryz.ntmps207
 go_wp2_with (at_builtin; refine zAw rfl _ _ 29 rfl (w.heap.size + 1 + 1) 177 i0 (.agg #[.int .i64 0, .int .i64 0, .int .i64 0, .int .i64 0]) 4 32 Tryz.underlying29 hi hz0 hz1 hz2 rfl (by decide) (.slice (some ⟨w.heap.size + 1 + 1, 0, none⟩) 0 0) 0 [] rfl ?ca A n c (flat ps) rfl HA.out ?cb flat_one ?cc ?cd ?ce ?_)
 try case ca => exact own_lit (cs := []) (zAk _ (by simp)) rfl (by decide) (by omega)
 try case cb => exact HR.out.below HL.out (zAc (zAc (zAc (Below.refl _ _) (zAa _ _)) (zAa _ _)) (zAa _ _))
 try case cc => unfold maxLen; have := HN.out; omega
 try case cd => have := HN.out; omega
 try case ce => first | omega | (simp <;> omega)
 intro v1 w1 own1 hg1 hne1 hat1
 (try rw [List.nil_append] at own1)
 (try simp only [Nat.zero_add] at own1)
 have hB1 : Below w.heap.size w w1 := Below.grown (zAc (zAc (zAc (Below.refl _ _) (zAa _ _)) (zAa _ _)) (zAa _ _)) hg1 (by first | exact Nat.le_refl _ | (simp <;> omega)) (fun k hk => by first | (cases hk; done) | (have hk9 : w.heap.size + 1 + 1 = k := Option.some.inj hk; omega))
 obtain ⟨X1, c1, rfl, _⟩ := zAt own1
 have bx1 := zAr (zAu (zAk (w := w.alloc (.cells #[.slice A n c] 31)) (.cells #[.slice none 0 0] 31) (k := w.heap.size + 1) (by simp)) _) hg1 (fun k hk => by first | (cases hk; done) | (have hk9 : w.heap.size + 1 + 1 = k := Option.some.inj hk; omega))
 have e0 := zAb bx1 0 rfl
 have f0 := zAh bx1
 have hy1 := zAf bx1
 have O1 := Lib.hid own1
 have B1 := Lib.hid hB1
 clear own1 hB1 hg1 hat1 bx1 hi hz0 hz1 hz2
 go_wp2
 (try go_light)
 refine bodyPost_ret (v := .agg #[.slice X1 n c1]) (by simp [results, Tryz.results207, go_sem, *]) rfl ?_
 exact ⟨_, rfl, zAn (zAo O1.out (fun k hk => by have := own_ge O1.out k hk; show k ≠ w.heap.size + 1; omega) _) (by omega), B1.out.setCell (by show w.heap.size ≤ w.heap.size + 1; omega) _⟩
end Go.Proofs.YtnphjhbfpoekpaaGreat
