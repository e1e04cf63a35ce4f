import Derived.Test.YtnphjhbfpoekpaaGreatFaPk
import Derived.Test.YtnphjhbfpoekpaaGreatA17Pk
import Derived.Deep.RegionHeld3
namespace Go.Proofs.YtnphjhbfpoekpaaGreat
set_option linter.unusedSimpArgs false
set_option linter.unusedVariables false
set_option linter.unnecessarySimpa false
open Go.RowKit
theorem bd2 (w : World) (o o1 : Obj) : Below w.heap.size w ((w.alloc o).alloc o1).drew := (zAc (zAc (Below.refl _ _) (zAa _ _)) (zAa _ _)).drew
set_option maxHeartbeats 4000000 in
set_option maxRecDepth 20000 in
theorem copyTopo_any (A B : Option Addr) (n c m d : Nat) (ps : List Int) (ns : List Q) (w : World) (hn : n ≤ 1048576) (hm : m ≤ 1048576) (hr : Rd w A n 1 (ints ps)) (hq : Rd w B m 4 (flat ns)) (hl : ∀ g, A = some ⟨g, 0, none⟩ → g < w.heap.size) (hl2 : ∀ g, B = some ⟨g, 0, none⟩ → g < w.heap.size) (hA : adr A n c) (hB : adr B m d) :
  Calls Tryz.prog 120 #[.agg #[.slice A n c, .slice B m d]] w fun e w' => ∃ u v, e = .returned (.agg #[u, v]) ∧ w'.ownsRow w.heap.size 3 1 u n (ints ps) ∧ w'.ownsRow w.heap.size 199 4 v m (flat ns) ∧ Below w.heap.size w w' := by
 have hpl := hr.ilen
 have hql : ns.length = m := by have := hq.1; rw [flat_len] at this; omega
 have hn9 : n ≤ 9223372036854775807 := by omega
 have hm9 : m ≤ 9223372036854775807 := by omega
 have HN := Lib.hid hn
 have HM := Lib.hid hm
 have HR := Lib.hid hr
 have HQ := Lib.hid hq
 have HL := Lib.hid hl
 have HL2 := Lib.hid hl2
 have HP := Lib.hid hpl
 have HQL := Lib.hid hql
 clear hn hm hr hq hl hl2 hpl hql
 obtain ⟨iN, hiN, hzaN, hzbN, hzcN⟩ := info_parts infoNode
 have HA := Lib.hid hA
 have HBB := Lib.hid hB
 clear hA hB
 go_enter Tryz.func120, Tryz.ntmps120
 go_wp2_with fail
 go_region_held3 (fun w' => w'.cell? ⟨w.heap.size, 0, none⟩ = some (.slice A n c) ∧ w'.cell? ⟨w.heap.size, 1, none⟩ = some (.slice B m d)) (simp [go_sem, *, World.cell?_alloc_some, World.cell?_setCell_far, Nat.lt_add_right, Nat.ne_of_gt]) (first | (go_at_call 186; refine (copyInts_any A n c ps _ HN.out HA.out (HR.out.below HL.out (bd2 _ _ _)) (zAm HL.out (bd2 _ _ _))).mono ?_; rintro e w3 ⟨v3, rfl, own3, hb3⟩; have hs3 := hb3.size; (try simp at hs3); (have hy30 : w.heap.size < w3.heap.size := (by omega)); (have hk30 := fun o => hb3.cell (p := ⟨w.heap.size, o, none⟩) zOm); (have hg30 := fun o => hb3.frozen (p := ⟨w.heap.size, o, none⟩) zOm); (have hy31 : w.heap.size + 1 < w3.heap.size := (by omega)); (have hk31 := fun o => hb3.cell (p := ⟨w.heap.size + 1, o, none⟩) zOm); (have hg31 := fun o => hb3.frozen (p := ⟨w.heap.size + 1, o, none⟩) zOm); have B3 := Lib.hid (zAc (bd2 _ _ _) hb3); obtain ⟨X3, c3, rfl, _⟩ := zAt own3; have O3 := Lib.hid own3; clear own3) | ((apply step_append_row (t := 24) (base := (w.heap.size + 1 + 1)) (e := 199) (i := iN) (z := (.agg #[.int .i64 0, .int .i64 0, .int .i64 0, .int .i64 0])) (size := 4) (bytes := 32) (ht := Tryz.underlying24) (hi := hiN) (hz := hzaN) (hsize := hzbN) (hby := hzcN) (hzs := rfl) (hsz := by decide) (v := (.slice none 0 0)) (n := 0) (xs := []) (X := B) (m := m) (c := d) (news := (flat ns))); (case hgd => rfl); (case ho => rfl); (case hs => rfl); (case hx => rfl); (case hown => exact own_nil _ _ _ _); (case hX => exact HBB.out); (case hrd => exact HQ.out.below HL2.out B3.out); (case h1 => exact flat_one); (case h63 => (unfold maxLen; have := HM.out; omega)); (case hbytes => (have := HM.out; omega)); (case hbase => first | omega | (simp <;> omega)); (intro v5 w5 own5 hgr5 hne5 hat5); (have hs5 := hgr5.size); (try simp at hs5); (have hy50 : w.heap.size < w5.heap.size := (by omega)); (have hk50 : ∀ o, w5.cell? ⟨w.heap.size, o, none⟩ = w3.cell? ⟨w.heap.size, o, none⟩ := fun o => World.cell?_of_block (a := ⟨w.heap.size, o, none⟩) (hgr5.block _ zOm (fun h => by cases h))); (have hg50 : ∀ o, w5.frozen? ⟨w.heap.size, o, none⟩ = w3.frozen? ⟨w.heap.size, o, none⟩ := fun o => World.frozen?_of_block (a := ⟨w.heap.size, o, none⟩) (hgr5.block _ zOm (fun h => by cases h))); (have hy51 : w.heap.size + 1 < w5.heap.size := (by omega)); (have hk51 : ∀ o, w5.cell? ⟨w.heap.size + 1, o, none⟩ = w3.cell? ⟨w.heap.size + 1, o, none⟩ := fun o => World.cell?_of_block (a := ⟨w.heap.size + 1, o, none⟩) (hgr5.block _ zOm (fun h => by cases h))); (have hg51 : ∀ o, w5.frozen? ⟨w.heap.size + 1, o, none⟩ = w3.frozen? ⟨w.heap.size + 1, o, none⟩ := fun o => World.frozen?_of_block (a := ⟨w.heap.size + 1, o, none⟩) (hgr5.block _ zOm (fun h => by cases h))); (try rw [List.nil_append] at own5); (try simp only [Nat.zero_add] at own5); (have O5 := Lib.hid own5); (obtain ⟨X5, c5, rfl, _⟩ := zAt own5); (have B5 := Lib.hid (Below.grown B3.out hgr5 (by omega) (fun k hk => by cases hk))); (have O35 := Lib.hid (own_grown O3.out hgr5 (fun k hk h => by cases h))); (clear own5 hgr5 hat5)))
 all_goals go_wp2
 all_goals (try go_light)
 all_goals refine bodyPost_ret (v := .agg #[.slice X3 n c3, .slice X5 m c5]) (by simp [results, Tryz.results120, go_sem, *]) rfl ?_
 all_goals have N1 : ∀ k, (Value.slice X3 n c3).ownBlock = some k → k ≠ w.heap.size + 1 := fun k hk => by have := own_ge O35.out k hk; simp at this; omega
 all_goals have N2 : ∀ k, (Value.slice X5 m c5).ownBlock = some k → k ≠ w.heap.size + 1 := fun k hk => by have := own_ge O5.out k hk; omega
 all_goals exact ⟨_, _, rfl, zAo (zAq (a := ⟨w.heap.size + 1, 1, none⟩) (zAq (a := ⟨w.heap.size + 1, 0, none⟩) O35.out N1 _) N1 _) (by simp; omega), zAo (zAq (a := ⟨w.heap.size + 1, 1, none⟩) (zAq (a := ⟨w.heap.size + 1, 0, none⟩) O5.out N2 _) N2 _) (by omega), (B5.out.setCell (by show w.heap.size ≤ w.heap.size + 1; omega) _).setCell (by show w.heap.size ≤ w.heap.size + 1; omega) _⟩
end Go.Proofs.YtnphjhbfpoekpaaGreat
