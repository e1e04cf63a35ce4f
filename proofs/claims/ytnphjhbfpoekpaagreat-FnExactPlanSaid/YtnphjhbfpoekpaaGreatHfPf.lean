import Derived.Test.YtnphjhbfpoekpaaGreatHePf
namespace Go.Proofs.YtnphjhbfpoekpaaGreat
set_option linter.unusedSimpArgs false
set_option linter.unusedVariables false
set_option linter.unnecessarySimpa false
open Go.RowKit
theorem OwnH.row {w : World} {lo : Nat} {A : Option Addr} {n c : Nat} {ss : List Value} {hs : List Hd} (h : OwnH w lo (.slice A n c) n ss hs) {k : Nat} (hk : k < n) :
  ∃ g p X d, A = some ⟨g, 0, none⟩ ∧ hs[k]? = some p ∧ ss[k]? = some (.slice X p.nd.length d) ∧ p.nd.length ≤ 1048576 ∧ w.ownsRow lo 3 1 (.slice X p.nd.length d) p.nd.length (ints p.nd) ∧ g < w.heap.size ∧
   w.cell? ⟨g, k * 3, none⟩ = some (.int .i64 p.id) ∧ w.cell? ⟨g, k * 3 + 1, none⟩ = some (.int .i64 p.at_) ∧ w.cell? ⟨g, k * 3 + 2, none⟩ = some (.slice X p.nd.length d) := by
 have e1 := h.len
 have e2 := h.slen
 obtain ⟨p, hp⟩ : ∃ p, hs[k]? = some p := ⟨_, zgh (by omega)⟩
 obtain ⟨x, hx⟩ : ∃ x, ss[k]? = some x := ⟨_, zgh (by omega)⟩
 obtain ⟨hl, ho⟩ := h.each k x p hx hp
 obtain ⟨X, d, rfl, _⟩ := zAm ho
 obtain ⟨g, rfl, hc⟩ := (zAp h.own).2 (by omega)
 obtain ⟨c0, c1, c2⟩ := hcells_get hp hx
 exact ⟨g, p, X, d, rfl, hp, hx, hl, ho, own_lt h.own g rfl, hc _ _ c0, hc _ _ c1, hc _ _ c2⟩
set_option maxHeartbeats 2000000 in
theorem eqHeld_any (i t : Int) (A A' : Option Addr) (n c c' : Nat) (zs : List Int) (w : World) (hn : n ≤ 1048577) (ha : Rd w A n 1 (ints zs)) (hb : Rd w A' n 1 (ints zs)) (hl : ∀ g, A = some ⟨g, 0, none⟩ → g < w.heap.size) (hl2 : ∀ g, A' = some ⟨g, 0, none⟩ → g < w.heap.size) :
  Calls Tryz.prog 81 #[.agg #[.int .i64 i, .int .i64 t, .slice A n c], .agg #[.int .i64 i, .int .i64 t, .slice A' n c']] w fun e w' => e = .returned (.bool true) ∧ Below w.heap.size w w' := by
 have HN := Lib.hid hn
 have HA := Lib.hid ha
 have HB := Lib.hid hb
 have HL := Lib.hid hl
 have HL2 := Lib.hid hl2
 clear hn ha hb hl hl2
 go_enter Tryz.func81, Tryz.ntmps81
 have B2 : Hid (Below w.heap.size w ((w.alloc (.cells #[.int .i64 i, .int .i64 t, .slice A n c] 41)).alloc (.cells #[.int .i64 i, .int .i64 t, .slice A' n c'] 41))) := Lib.hid (zAb (zAa _ _) (zAa _ _))
 go_wp2_with fail
 refine (eqIntS_any A A' n c c' zs _ HN.out (HA.out.below HL.out B2.out) (HB.out.below HL2.out B2.out)).mono ?_
 rintro e w1 ⟨rfl, k1, hw1⟩
 have B3 := Lib.hid (zAb B2.out (below_eqN hw1))
 clear hw1
 go_wp2
 go_ret
 exact ⟨rfl, B3.out⟩
set_option maxHeartbeats 4000000 in
theorem eqHeldS_any (A A' : Option Addr) (n c c' lo lo' : Nat) (ss ss' : List Value) (hs : List Hd) (w : World) (hn : n ≤ 1048577) (ha : OwnH w lo (.slice A n c) n ss hs) (hb : OwnH w lo' (.slice A' n c') n ss' hs) :
  Calls Tryz.prog 24 #[.slice A n c, .slice A' n c'] w fun e w' => e = .returned (.bool true) ∧ Below w.heap.size w w' := by
 have hm : n ≤ 9223372036854775807 := by omega
 have HN := Lib.hid hn
 have HA := Lib.hid ha
 have HB := Lib.hid hb
 clear hn ha hb
 go_enter Tryz.func24, Tryz.ntmps24
 go_wp2
 go_loopw [5] (fun i wr => ∃ k : Nat, k ≤ n ∧ i = .int .i64 k ∧ Below w.heap.size w wr) (fun i _ => n - (intOf i).toNat)
 case atStart => exact ⟨0, Nat.zero_le _, rfl, Below.refl _ _⟩
 case round =>
  obtain ⟨k, hk, rfl, hbw⟩ := hrel
  obtain ⟨wo, rfl⟩ : ∃ x, x = wr := ⟨wr, rfl⟩
  have HBW := Lib.hid hbw
  by_cases hlt : k < n
  ·have hlt' : (k : Int) < n := by omega
   obtain ⟨g, p, X, d, rfl, hp, hx, hl, ho, hg, c0, c1, c2⟩ := (HA.out.bel hbw).row hlt
   obtain ⟨g', p', X', d', rfl, hp', hx', hl', ho', hg', c0', c1', c2'⟩ := (HB.out.bel hbw).row hlt
   rw [hp] at hp'
   obtain rfl := Option.some.inj hp'
   have O1 := Lib.hid ho
   have O2 := Lib.hid ho'
   clear hp hp' hx hx' ho ho' hbw hl'
   go_wp2_with fail
   go_region_held3 (fun w' => w'.cell? ⟨g, k * 3, none⟩ = some (.int .i64 p.id) ∧ w'.cell? ⟨g, k * 3 + 1, none⟩ = some (.int .i64 p.at_) ∧ w'.cell? ⟨g, k * 3 + 2, none⟩ = some (.slice X p.nd.length d) ∧ w'.cell? ⟨g', k * 3, none⟩ = some (.int .i64 p.id) ∧ w'.cell? ⟨g', k * 3 + 1, none⟩ = some (.int .i64 p.at_) ∧ w'.cell? ⟨g', k * 3 + 2, none⟩ = some (.slice X' p.nd.length d')) (simp [go_sem, *, World.cell?_alloc_some, World.cell?_setCell_far, Nat.lt_add_right, Nat.ne_of_gt]) (first | (go_at_call 81; refine (eqHeld_any p.id p.at_ X X' p.nd.length d d' p.nd _ (by omega) (zAp (zAe O1.out ((Below.refl _ wo).drew))) (zAp (zAe O2.out ((Below.refl _ wo).drew))) (zAx (zAe O1.out ((Below.refl _ wo).drew))) (zAx (zAe O2.out ((Below.refl _ wo).drew)))).mono ?_; rintro e w9 ⟨rfl, hb9⟩; have hs9 := hb9.size; (try simp at hs9); have q0 := fun o => hb9.cell (p := ⟨g, o, none⟩) zOm; have q1 := fun o => hb9.cell (p := ⟨g', o, none⟩) zOm))
   have B9 := Lib.hid (zAb HBW.out (show Below wo.heap.size wo w9 from zAb ((Below.refl wo.heap.size wo).drew) hb9))
   clear hb9 q0 q1 hs9
   go_wp2
   exact ⟨⟨k + 1, by omega, by go_num, B9.out⟩, by simp [intOf]; omega⟩
  ·have hlt' : ¬ (k : Int) < n := by omega
   go_wp2
   go_ret
   exact ⟨rfl, hbw⟩
end Go.Proofs.YtnphjhbfpoekpaaGreat
