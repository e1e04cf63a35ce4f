import Derived.Test.YtnphjhbfpoekpaaGreatA3Pl
import Derived.Test.YtnphjhbfpoekpaaGreatA1Pl
import Derived.Laws.BitsAllLaws
import Derived.Laws.BitsLemmas
import Derived.Lib.Hide
import Derived.Test.YtnphjhbfpoekpaaGreatA8Pl
import Derived.Test.YtnphjhbfpoekpaaGreatA0Pl
import Derived.ChangeArms
import Derived.OpenShut
import Derived.Test.YtnphjhbfpoekpaaGreatFaPl
import Derived.Deep.RegionHeld3
namespace Go.Proofs.YtnphjhbfpoekpaaGreat
set_option linter.unusedSimpArgs false
set_option linter.unusedVariables false
set_option linter.unnecessarySimpa false
open Go.RowKit
def ByIn (w : World) (A : Option Addr) (n : Nat) : Prop :=
 0 < n → ∃ b off, A = some ⟨b, off, none⟩ ∧ b < w.heap.size ∧ ∀ k, k < n → ∃ z : Int, 0 ≤ z ∧ z ≤ 255 ∧ w.cell? ⟨b, off + k, none⟩ = some (.int .u8 z)
theorem ByIn.below {w w' : World} {A : Option Addr} {n : Nat} (h : ByIn w A n) (hb : Below w.heap.size w w') : ByIn w' A n := fun hn => by
 obtain ⟨b, off, rfl, hl, hc⟩ := h hn
 refine ⟨b, off, rfl, Nat.lt_of_lt_of_le hl hb.size, fun k hk => ?_⟩
 obtain ⟨z, h0, h1, h2⟩ := hc k hk
 exact ⟨z, h0, h1, (hb.cell (p := ⟨b, _, none⟩) hl).trans h2⟩
structure Cur (w : World) (g : Nat) : Prop where
 ex : ∃ (A : Option Addr) (n c : Nat) (pos st : Int), w.heap[g]? = some (.cells #[.slice A n c, .int .i64 pos, .int .i64 st] 168 (0, 0)) ∧ 0 ≤ pos ∧ pos ≤ n ∧ n ≤ 1048576 ∧ ByIn w A n ∧ (0 < n → ∀ k, atB A k → k < g)
theorem Cur.lt {w : World} {g : Nat} (h : Cur w g) : g < w.heap.size := by obtain ⟨A, n, c, pos, st, h, _⟩ := h.ex; exact zAf h
theorem Cur.below {w w' : World} {g : Nat} (h : Cur w g) (hb : Below w.heap.size w w') : Cur w' g := by
 obtain ⟨A, n, c, pos, st, h1, h2, h3, h4, h5, h6⟩ := h.ex
 exact ⟨A, n, c, pos, st, zAg h1 hb, h2, h3, h4, h5.below hb, h6⟩
theorem ByIn.set {w : World} {A : Option Addr} {n : Nat} (h : ByIn w A n) {p : Addr} (hp : 0 < n → ∀ k, atB A k → k ≠ p.block) (v : Value) : ByIn (w.setCell p v) A n := fun hn => by
 obtain ⟨b, off, rfl, hl, hc⟩ := h hn
 refine ⟨b, off, rfl, by simpa using hl, fun k hk => ?_⟩
 obtain ⟨z, h0, h1, h2⟩ := hc k hk
 refine ⟨z, h0, h1, ?_⟩
 rw [World.cell?_of_block (Below.heap_setCell w p v b (hp hn b ⟨off, rfl⟩))]
 exact h2
theorem ByIn.drewN {w : World} {A : Option Addr} {n : Nat} (h : ByIn w A n) (k : Nat) : ByIn (w.drewN k) A n := h
theorem ByIn.drew {w : World} {A : Option Addr} {n : Nat} (h : ByIn w A n) : ByIn w.drew A n := h
theorem Fr.drewN {S : Nat → Prop} {a w : World} (h : Fr S a w) (k : Nat) : Fr S a (w.drewN k) := ⟨h.os, h.tape, h.output, h.size, h.block⟩
theorem Cur.set {w : World} {g : Nat} (h : Cur w g) {p : Addr} (hp : g < p.block) (v : Value) : Cur (w.setCell p v) g := by
 obtain ⟨A, n, c, pos, st, h1, h2, h3, h4, h5, h6⟩ := h.ex
 exact ⟨A, n, c, pos, st, bx_set h1 (by omega) v, h2, h3, h4, h5.set (fun hn k hk => by have := h6 hn k hk; omega) v, h6⟩
theorem Cur.alloc {w : World} {g : Nat} (h : Cur w g) (o : Obj) : Cur (w.alloc o) g := h.below (zAa w o)
theorem Cur.drewN {w : World} {g : Nat} (h : Cur w g) (k : Nat) : Cur (w.drewN k) g := ⟨h.ex⟩
theorem Cur.drew {w : World} {g : Nat} (h : Cur w g) : Cur w.drew g := ⟨h.ex⟩
theorem Fr.bel {S : Nat → Prop} {w w' : World} (h : Fr S w w') {B : Nat} (hS : ∀ k, S k → B ≤ k) (hB : B ≤ w.heap.size) : Below B w w' := h.below hS hB
theorem ByIn.lt {w : World} {A : Option Addr} {n : Nat} (h : ByIn w A n) (hn : 0 < n) : ∀ k, atB A k → k < w.heap.size := by
 obtain ⟨b, off, rfl, hl, _⟩ := h hn
 rintro k ⟨o, e⟩
 injection e with e
 injection e with e
 omega
end Go.Proofs.YtnphjhbfpoekpaaGreat
namespace Go.Proofs.YtnphjhbfpoekpaaGreat
set_option linter.unusedSimpArgs false
set_option linter.unusedVariables false
set_option linter.unnecessarySimpa false
open Go.ChangeShapes Go.WideShapes Go.ChangeAt Go.RowKit Go.Deep
section
variable {H : Type} {enc : TypeId × Value → H} {w : World} {base : Nat} {spare : Nat → Bool} {held : Bool}
end
section
variable {H : Type} {enc : TypeId × Value → H} {w : World} {base : Nat} {spare : Nat → Bool} {held : Bool}
end
theorem bd2 (w : World) (o o1 : Obj) : Below w.heap.size w ((w.alloc o).alloc o1).drew := (zAc (zAc (Below.refl _ _) (zAa _ _)) (zAa _ _)).drew
set_option maxHeartbeats 4000000 in
set_option maxRecDepth 20000 in
theorem copyTopo_any (A B : Option Addr) (n c m d : Nat) (ps : List Int) (ns : List Q) (w : World) (hn : n ≤ 1048576) (hm : m ≤ 1048576) (hr : Rd w A n 1 (ints ps)) (hq : Rd w B m 4 (flat ns)) (hl : ∀ g, A = some ⟨g, 0, none⟩ → g < w.heap.size) (hl2 : ∀ g, B = some ⟨g, 0, none⟩ → g < w.heap.size) (hA : adr A n c) (hB : adr B m d) :
  Calls Tryz.prog 120 #[.agg #[.slice A n c, .slice B m d]] w fun e w' => ∃ u v, e = .returned (.agg #[u, v]) ∧ w'.ownsRow w.heap.size 3 1 u n (ints ps) ∧ w'.ownsRow w.heap.size 199 4 v m (flat ns) ∧ Below w.heap.size w w' := by
 have hpl := hr.ilen
 have hql : ns.length = m := by have := hq.1; rw [flat_len] at this; omega
 have hn9 : n ≤ 9223372036854775807 := by omega
 have hm9 : m ≤ 9223372036854775807 := by omega
 have HN := Lib.hid hn
 have HM := Lib.hid hm
 have HR := Lib.hid hr
 have HQ := Lib.hid hq
 have HL := Lib.hid hl
 have HL2 := Lib.hid hl2
 have HP := Lib.hid hpl
 have HQL := Lib.hid hql
 clear hn hm hr hq hl hl2 hpl hql
 obtain ⟨iN, hiN, hzaN, hzbN, hzcN⟩ := info_parts infoNode
 have HA := Lib.hid hA
 have HBB := Lib.hid hB
 clear hA hB
 go_enter Tryz.func120, Tryz.ntmps120
 go_wp2_with fail
 go_region_held3 (fun w' => w'.cell? ⟨w.heap.size, 0, none⟩ = some (.slice A n c) ∧ w'.cell? ⟨w.heap.size, 1, none⟩ = some (.slice B m d)) (simp [go_sem, *, World.cell?_alloc_some, World.cell?_setCell_far, Nat.lt_add_right, Nat.ne_of_gt]) (first | (go_at_call 186; refine (copyInts_any A n c ps _ HN.out HA.out (HR.out.below HL.out (bd2 _ _ _)) (zAi HL.out (bd2 _ _ _))).mono ?_; rintro e w3 ⟨v3, rfl, own3, hb3⟩; have hs3 := hb3.size; (try simp at hs3); (have hy30 : w.heap.size < w3.heap.size := (by omega)); (have hk30 := fun o => hb3.cell (p := ⟨w.heap.size, o, none⟩) zOm); (have hg30 := fun o => hb3.frozen (p := ⟨w.heap.size, o, none⟩) zOm); (have hy31 : w.heap.size + 1 < w3.heap.size := (by omega)); (have hk31 := fun o => hb3.cell (p := ⟨w.heap.size + 1, o, none⟩) zOm); (have hg31 := fun o => hb3.frozen (p := ⟨w.heap.size + 1, o, none⟩) zOm); have B3 := Lib.hid (zAc (bd2 _ _ _) hb3); obtain ⟨X3, c3, rfl, _⟩ := zAt own3; have O3 := Lib.hid own3; clear own3) | ((apply step_append_row (t := 24) (base := (w.heap.size + 1 + 1)) (e := 199) (i := iN) (z := (.agg #[.int .i64 0, .int .i64 0, .int .i64 0, .int .i64 0])) (size := 4) (bytes := 32) (ht := Tryz.underlying24) (hi := hiN) (hz := hzaN) (hsize := hzbN) (hby := hzcN) (hzs := rfl) (hsz := by decide) (v := (.slice none 0 0)) (n := 0) (xs := []) (X := B) (m := m) (c := d) (news := (flat ns))); (case hgd => rfl); (case ho => rfl); (case hs => rfl); (case hx => rfl); (case hown => exact own_nil _ _ _ _); (case hX => exact HBB.out); (case hrd => exact HQ.out.below HL2.out B3.out); (case h1 => exact flat_one); (case h63 => (unfold maxLen; have := HM.out; omega)); (case hbytes => (have := HM.out; omega)); (case hbase => first | omega | (simp <;> omega)); (intro v5 w5 own5 hgr5 hne5 hat5); (have hs5 := hgr5.size); (try simp at hs5); (have hy50 : w.heap.size < w5.heap.size := (by omega)); (have hk50 : ∀ o, w5.cell? ⟨w.heap.size, o, none⟩ = w3.cell? ⟨w.heap.size, o, none⟩ := fun o => World.cell?_of_block (a := ⟨w.heap.size, o, none⟩) (hgr5.block _ zOm (fun h => by cases h))); (have hg50 : ∀ o, w5.frozen? ⟨w.heap.size, o, none⟩ = w3.frozen? ⟨w.heap.size, o, none⟩ := fun o => World.frozen?_of_block (a := ⟨w.heap.size, o, none⟩) (hgr5.block _ zOm (fun h => by cases h))); (have hy51 : w.heap.size + 1 < w5.heap.size := (by omega)); (have hk51 : ∀ o, w5.cell? ⟨w.heap.size + 1, o, none⟩ = w3.cell? ⟨w.heap.size + 1, o, none⟩ := fun o => World.cell?_of_block (a := ⟨w.heap.size + 1, o, none⟩) (hgr5.block _ zOm (fun h => by cases h))); (have hg51 : ∀ o, w5.frozen? ⟨w.heap.size + 1, o, none⟩ = w3.frozen? ⟨w.heap.size + 1, o, none⟩ := fun o => World.frozen?_of_block (a := ⟨w.heap.size + 1, o, none⟩) (hgr5.block _ zOm (fun h => by cases h))); (try rw [List.nil_append] at own5); (try simp only [Nat.zero_add] at own5); (have O5 := Lib.hid own5); (obtain ⟨X5, c5, rfl, _⟩ := zAt own5); (have B5 := Lib.hid (Below.grown B3.out hgr5 (by omega) (fun k hk => by cases hk))); (have O35 := Lib.hid (own_grown O3.out hgr5 (fun k hk h => by cases h))); (clear own5 hgr5 hat5)))
 all_goals go_wp2
 all_goals (try go_light)
 all_goals refine bodyPost_ret (v := .agg #[.slice X3 n c3, .slice X5 m c5]) (by simp [results, Tryz.results120, go_sem, *]) rfl ?_
 all_goals have N1 : ∀ k, (Value.slice X3 n c3).ownBlock = some k → k ≠ w.heap.size + 1 := fun k hk => by have := own_ge O35.out k hk; simp at this; omega
 all_goals have N2 : ∀ k, (Value.slice X5 m c5).ownBlock = some k → k ≠ w.heap.size + 1 := fun k hk => by have := own_ge O5.out k hk; omega
 all_goals exact ⟨_, _, rfl, zAn (zAo (a := ⟨w.heap.size + 1, 1, none⟩) (zAo (a := ⟨w.heap.size + 1, 0, none⟩) O35.out N1 _) N1 _) (by simp; omega), zAn (zAo (a := ⟨w.heap.size + 1, 1, none⟩) (zAo (a := ⟨w.heap.size + 1, 0, none⟩) O5.out N2 _) N2 _) (by omega), (B5.out.setCell (by show w.heap.size ≤ w.heap.size + 1; omega) _).setCell (by show w.heap.size ≤ w.heap.size + 1; omega) _⟩
end Go.Proofs.YtnphjhbfpoekpaaGreat
