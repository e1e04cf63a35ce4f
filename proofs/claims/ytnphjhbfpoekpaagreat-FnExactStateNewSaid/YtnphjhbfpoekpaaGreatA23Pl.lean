import Derived.Test.YtnphjhbfpoekpaaGreatA11Pl
import Derived.Test.YtnphjhbfpoekpaaGreatA3Pl
import Derived.Test.YtnphjhbfpoekpaaGreatA7Pl
import Derived.Test.YtnphjhbfpoekpaaGreatA8Pl
import Derived.Deep.QuietTactic
import Derived.BigQuiet
import Derived.Deep.AppendLies
import Derived.Test.YtnphjhbfpoekpaaGreatSiPl
import Derived.Laws.AppendOwnNone
import Derived.Sort.OwnSorted
namespace Go.Proofs.YtnphjhbfpoekpaaGreat
set_option linter.unusedSimpArgs false
set_option linter.unusedVariables false
set_option linter.unnecessarySimpa false
open Go.RowKit
set_option maxHeartbeats 8000000 in
set_option maxRecDepth 20000 in
theorem markJobF (A : Option Addr) (n c lo : Nat) (k0 : Int) (w : World) (hn : n ≤ 1048577) (hk0 : 0 ≤ k0) (hk1 : k0 ≤ 2305843009213693952) (hw : Wr w lo A (n * 11) 95) :
  Calls Tryz.prog 47 #[.slice A n c, .int .i64 k0] w fun e w' => e = .returned (.int .i64 (k0 + 11 * (n : Int))) ∧ Rd w' A n 11 (imarks k0 (n * 11)) ∧ Fr (atB A) w w' := by
 have hm : n ≤ 9223372036854775807 := by omega
 have hkm : k0 + 11 * (n : Int) ≤ 9223372036854775800 := by omega
 have HW := Lib.hid hw
 clear hn hk1 hw
 go_enter Tryz.func47, Tryz.ntmps47
 go_wp2
 go_loopw [1, 5] (fun q i wr => ∃ k : Nat, k ≤ n ∧ i = .int .i64 k ∧ q = .int .i64 (k0 + 11 * (k : Int)) ∧ Fr (atB A) w wr ∧ (0 < n * 11 → ∃ g cur, A = some ⟨g, 0, none⟩ ∧ wr.heap[g]? = some (.cells cur 95 (0, 0)) ∧ n * 11 ≤ cur.size ∧ ∀ j, j < k * 11 → cur[j]? = some (.int .i64 (k0 + j)))) (fun _ i _ => n - (intOf i).toNat)
 case atStart =>
  refine ⟨0, Nat.zero_le _, rfl, by simp, Fr.refl _ _, fun h => ?_⟩
  obtain ⟨g, cur, hA, hg, hh, hs⟩ := HW.out h
  exact ⟨g, cur, hA, hh, hs, fun j hj => absurd hj (by omega)⟩
 case round =>
  obtain ⟨k, hk, rfl, rfl, hb, hcur⟩ := hrel
  by_cases hlt : k < n
  ·obtain ⟨g, cur, rfl, hh, hs, hm2⟩ := hcur (by omega)
   obtain ⟨o0, ho0⟩ := zAp (i := k * 11) hh (by omega)
   have hf0 := zAs (i := k * 11) hh
   obtain ⟨o1, ho1⟩ := zAp (i := k * 11 + 1) hh (by omega)
   have hf1 := zAs (i := k * 11 + 1) hh
   obtain ⟨o2, ho2⟩ := zAp (i := k * 11 + 2) hh (by omega)
   have hf2 := zAs (i := k * 11 + 2) hh
   obtain ⟨o3, ho3⟩ := zAp (i := k * 11 + 3) hh (by omega)
   have hf3 := zAs (i := k * 11 + 3) hh
   obtain ⟨o4, ho4⟩ := zAp (i := k * 11 + 4) hh (by omega)
   have hf4 := zAs (i := k * 11 + 4) hh
   obtain ⟨o5, ho5⟩ := zAp (i := k * 11 + 5) hh (by omega)
   have hf5 := zAs (i := k * 11 + 5) hh
   obtain ⟨o6, ho6⟩ := zAp (i := k * 11 + 6) hh (by omega)
   have hf6 := zAs (i := k * 11 + 6) hh
   obtain ⟨o7, ho7⟩ := zAp (i := k * 11 + 7) hh (by omega)
   have hf7 := zAs (i := k * 11 + 7) hh
   obtain ⟨o8, ho8⟩ := zAp (i := k * 11 + 8) hh (by omega)
   have hf8 := zAs (i := k * 11 + 8) hh
   obtain ⟨o9, ho9⟩ := zAp (i := k * 11 + 9) hh (by omega)
   have hf9 := zAs (i := k * 11 + 9) hh
   obtain ⟨o10, ho10⟩ := zAp (i := k * 11 + 10) hh (by omega)
   have hf10 := zAs (i := k * 11 + 10) hh
   have HM := Lib.hid hm2
   have HH := Lib.hid hh
   clear hm2 hh hcur
   have hlt' : (k : Int) < n := by omega
   have hlt2 : k0 + 11 * (k : Int) + 11 ≤ 9223372036854775807 := by omega
   have hlt3 : 0 ≤ k0 + 11 * (k : Int) := by omega
   go_wp2
   refine ⟨⟨k + 1, by omega, by go_num, congrArg (Value.int IntKind.i64) (by omega), (((((((((((hb.setCell (Or.inl ⟨0, rfl⟩) _).setCell (Or.inl ⟨0, rfl⟩) _).setCell (Or.inl ⟨0, rfl⟩) _).setCell (Or.inl ⟨0, rfl⟩) _).setCell (Or.inl ⟨0, rfl⟩) _).setCell (Or.inl ⟨0, rfl⟩) _).setCell (Or.inl ⟨0, rfl⟩) _).setCell (Or.inl ⟨0, rfl⟩) _).setCell (Or.inl ⟨0, rfl⟩) _).setCell (Or.inl ⟨0, rfl⟩) _).setCell (Or.inl ⟨0, rfl⟩) _), fun _ => ⟨g, _, rfl, (zAq (zAq (zAq (zAq (zAq (zAq (zAq (zAq (zAq (zAq (zAq HH.out))))))))))), ?_, ?_⟩⟩, by simp [intOf]; omega⟩
   ·simpa using hs
   ·intro j hj
    simp only [Array.getElem?_setIfInBounds, Array.size_setIfInBounds]
    have HM' := HM.out j
    rcases (show j < k * 11 ∨ j = k * 11 ∨ j = k * 11 + 1 ∨ j = k * 11 + 2 ∨ j = k * 11 + 3 ∨ j = k * 11 + 4 ∨ j = k * 11 + 5 ∨ j = k * 11 + 6 ∨ j = k * 11 + 7 ∨ j = k * 11 + 8 ∨ j = k * 11 + 9 ∨ j = k * 11 + 10 by omega) with h | h | h | h | h | h | h | h | h | h | h | h
    ·rw [if_neg (by omega), if_neg (by omega), if_neg (by omega), if_neg (by omega), if_neg (by omega), if_neg (by omega), if_neg (by omega), if_neg (by omega), if_neg (by omega), if_neg (by omega), if_neg (by omega)]; exact HM' (by omega)
    ·rw [if_neg (by omega), if_neg (by omega), if_neg (by omega), if_neg (by omega), if_neg (by omega), if_neg (by omega), if_neg (by omega), if_neg (by omega), if_neg (by omega), if_neg (by omega), if_pos (by omega), if_pos (by omega)]; exact congrArg (fun z => some (Value.int IntKind.i64 z)) (by omega)
    ·rw [if_neg (by omega), if_neg (by omega), if_neg (by omega), if_neg (by omega), if_neg (by omega), if_neg (by omega), if_neg (by omega), if_neg (by omega), if_neg (by omega), if_pos (by omega), if_pos (by omega)]; exact congrArg (fun z => some (Value.int IntKind.i64 z)) (by omega)
    ·rw [if_neg (by omega), if_neg (by omega), if_neg (by omega), if_neg (by omega), if_neg (by omega), if_neg (by omega), if_neg (by omega), if_neg (by omega), if_pos (by omega), if_pos (by omega)]; exact congrArg (fun z => some (Value.int IntKind.i64 z)) (by omega)
    ·rw [if_neg (by omega), if_neg (by omega), if_neg (by omega), if_neg (by omega), if_neg (by omega), if_neg (by omega), if_neg (by omega), if_pos (by omega), if_pos (by omega)]; exact congrArg (fun z => some (Value.int IntKind.i64 z)) (by omega)
    ·rw [if_neg (by omega), if_neg (by omega), if_neg (by omega), if_neg (by omega), if_neg (by omega), if_neg (by omega), if_pos (by omega), if_pos (by omega)]; exact congrArg (fun z => some (Value.int IntKind.i64 z)) (by omega)
    ·rw [if_neg (by omega), if_neg (by omega), if_neg (by omega), if_neg (by omega), if_neg (by omega), if_pos (by omega), if_pos (by omega)]; exact congrArg (fun z => some (Value.int IntKind.i64 z)) (by omega)
    ·rw [if_neg (by omega), if_neg (by omega), if_neg (by omega), if_neg (by omega), if_pos (by omega), if_pos (by omega)]; exact congrArg (fun z => some (Value.int IntKind.i64 z)) (by omega)
    ·rw [if_neg (by omega), if_neg (by omega), if_neg (by omega), if_pos (by omega), if_pos (by omega)]; exact congrArg (fun z => some (Value.int IntKind.i64 z)) (by omega)
    ·rw [if_neg (by omega), if_neg (by omega), if_pos (by omega), if_pos (by omega)]; exact congrArg (fun z => some (Value.int IntKind.i64 z)) (by omega)
    ·rw [if_neg (by omega), if_pos (by omega), if_pos (by omega)]; exact congrArg (fun z => some (Value.int IntKind.i64 z)) (by omega)
    ·rw [if_pos (by omega), if_pos (by omega)]; exact congrArg (fun z => some (Value.int IntKind.i64 z)) (by omega)
  ·obtain rfl : k = n := by omega
   go_wp2
   go_ret
   refine ⟨rfl, rd_of_heap (fun h => ?_) (by omega), hb⟩
   obtain ⟨g, cur, hA, hh, hs, hm2⟩ := hcur h
   exact ⟨g, cur, _, _, hA, hh, hm2⟩
set_option maxHeartbeats 8000000 in
set_option maxRecDepth 20000 in
theorem heldJob_any (A : Option Addr) (n c : Nat) (k0 : Int) (w : World) (hn : n ≤ 1048577) (hk0 : 0 ≤ k0) (hk1 : k0 ≤ 2305843009213693952) (hr : Rd w A n 11 (imarks k0 (n * 11))) :
  Calls Tryz.prog 125 #[.slice A n c, .int .i64 k0] w fun e w' => e = .returned (.int .i64 (k0 + 11 * (n : Int))) ∧ w = w' := by
 have hm : n ≤ 9223372036854775807 := by omega
 have hkm : k0 + 11 * (n : Int) ≤ 9223372036854775800 := by omega
 have HR := Lib.hid hr
 clear hn hk1 hr
 go_enter Tryz.func125, Tryz.ntmps125
 go_wp2
 go_loop [1, 5] (fun q i => ∃ k : Nat, k ≤ n ∧ i = .int .i64 k ∧ q = .int .i64 (k0 + 11 * (k : Int))) (fun _ i => n - (intOf i).toNat)
 case atStart => exact ⟨0, Nat.zero_le _, rfl, by simp⟩
 case round =>
  obtain ⟨k, hk, rfl, rfl⟩ := hrel
  by_cases hlt : k < n
  ·obtain ⟨g, rfl, hc⟩ := HR.out.mk_at hlt
   have c0 : w.cell? ⟨g, k * 11, none⟩ = some (.int .i64 (k0 + 11 * (k : Int))) := (hc _ (by omega)).trans (congrArg (fun z => some (Value.int IntKind.i64 z)) (by omega))
   have c1 : w.cell? ⟨g, k * 11 + 1, none⟩ = some (.int .i64 (k0 + 11 * (k : Int) + 1)) := (hc _ (by omega)).trans (congrArg (fun z => some (Value.int IntKind.i64 z)) (by omega))
   have c2 : w.cell? ⟨g, k * 11 + 2, none⟩ = some (.int .i64 (k0 + 11 * (k : Int) + 1 + 1)) := (hc _ (by omega)).trans (congrArg (fun z => some (Value.int IntKind.i64 z)) (by omega))
   have c3 : w.cell? ⟨g, k * 11 + 3, none⟩ = some (.int .i64 (k0 + 11 * (k : Int) + 1 + 1 + 1)) := (hc _ (by omega)).trans (congrArg (fun z => some (Value.int IntKind.i64 z)) (by omega))
   have c4 : w.cell? ⟨g, k * 11 + 4, none⟩ = some (.int .i64 (k0 + 11 * (k : Int) + 1 + 1 + 1 + 1)) := (hc _ (by omega)).trans (congrArg (fun z => some (Value.int IntKind.i64 z)) (by omega))
   have c5 : w.cell? ⟨g, k * 11 + 5, none⟩ = some (.int .i64 (k0 + 11 * (k : Int) + 1 + 1 + 1 + 1 + 1)) := (hc _ (by omega)).trans (congrArg (fun z => some (Value.int IntKind.i64 z)) (by omega))
   have c6 : w.cell? ⟨g, k * 11 + 6, none⟩ = some (.int .i64 (k0 + 11 * (k : Int) + 1 + 1 + 1 + 1 + 1 + 1)) := (hc _ (by omega)).trans (congrArg (fun z => some (Value.int IntKind.i64 z)) (by omega))
   have c7 : w.cell? ⟨g, k * 11 + 7, none⟩ = some (.int .i64 (k0 + 11 * (k : Int) + 1 + 1 + 1 + 1 + 1 + 1 + 1)) := (hc _ (by omega)).trans (congrArg (fun z => some (Value.int IntKind.i64 z)) (by omega))
   have c8 : w.cell? ⟨g, k * 11 + 8, none⟩ = some (.int .i64 (k0 + 11 * (k : Int) + 1 + 1 + 1 + 1 + 1 + 1 + 1 + 1)) := (hc _ (by omega)).trans (congrArg (fun z => some (Value.int IntKind.i64 z)) (by omega))
   have c9 : w.cell? ⟨g, k * 11 + 9, none⟩ = some (.int .i64 (k0 + 11 * (k : Int) + 1 + 1 + 1 + 1 + 1 + 1 + 1 + 1 + 1)) := (hc _ (by omega)).trans (congrArg (fun z => some (Value.int IntKind.i64 z)) (by omega))
   have c10 : w.cell? ⟨g, k * 11 + 10, none⟩ = some (.int .i64 (k0 + 11 * (k : Int) + 1 + 1 + 1 + 1 + 1 + 1 + 1 + 1 + 1 + 1)) := (hc _ (by omega)).trans (congrArg (fun z => some (Value.int IntKind.i64 z)) (by omega))
   clear hc HR
   have hlt' : (k : Int) < n := by omega
   have hlt2 : k0 + 11 * (k : Int) + 11 ≤ 9223372036854775807 := by omega
   have hlt3 : 0 ≤ k0 + 11 * (k : Int) := by omega
   go_wp2
   exact ⟨⟨k + 1, by omega, by go_num, congrArg (Value.int IntKind.i64) (by omega)⟩, by simp [intOf]; omega⟩
  ·obtain rfl : k = n := by omega
   go_wp2
   go_ret
   exact ⟨rfl, rfl⟩
theorem jflat_snoc (js : List J) (j : J) : jflat (js ++ [j]) = jflat js ++ [.int .i64 j.id, .int .i64 j.pr, .int .i64 j.nn, .int .i64 j.na, .int .i64 j.nb, .int .i64 j.nc, .int .i64 j.la, .int .i64 j.lb, .int .i64 j.lc, .int .i64 j.wl, .int .i64 j.lv] := by simp [jflat, J.cells]
structure OB (w0 wi : World) (lo2 : Nat) (Y : Value) (l : Nat) (L : List J) : Prop where
 own : wi.ownsRow lo2 95 11 Y l (jflat L)
 bel : Below lo2 w0 wi
 sz : lo2 ≤ wi.heap.size
 len : L.length = l
theorem OB.step {w0 wi w' : World} {lo2 : Nat} {Y : Value} {l : Nat} {L : List J} (h : OB w0 wi lo2 Y l L) (hb : Below wi.heap.size wi w') : OB w0 w' lo2 Y l L :=
 ⟨zAe h.own hb, h.bel.trans (hb.mono h.sz), Nat.le_trans h.sz hb.size, h.len⟩
theorem OB.put {w0 wi w' : World} {lo2 : Nat} {Y Y' : Value} {l : Nat} {L : List J} {j : J} (h : OB w0 wi lo2 Y l L) (ho : w'.ownsRow lo2 95 11 Y' (l + 1) (jflat L ++ [.int .i64 j.id, .int .i64 j.pr, .int .i64 j.nn, .int .i64 j.na, .int .i64 j.nb, .int .i64 j.nc, .int .i64 j.la, .int .i64 j.lb, .int .i64 j.lc, .int .i64 j.wl, .int .i64 j.lv])) (hg : wi.grownBy w' Y.ownBlock) : OB w0 w' lo2 Y' (l + 1) (L ++ [j]) := by
 refine ⟨?_, Below.grown h.bel hg h.sz (fun k hk => own_ge h.own k hk), Nat.le_trans h.sz hg.size, by rw [List.length_append, h.len]; rfl⟩
 rw [jflat_snoc]; exact ho
end Go.Proofs.YtnphjhbfpoekpaaGreat
namespace Go.Proofs.YtnphjhbfpoekpaaGreat
set_option linter.unusedSimpArgs false
set_option linter.unusedVariables false
set_option linter.unnecessarySimpa false
open Go.RowKit Go.Sort Go.Shelf
abbrev JA : Type := { j : J // j.okB = true }
def jobOne : J := ⟨1, 0, 1, 0, 0, 0, 0, 0, 0, 1, 0⟩
instance : Inhabited JA := ⟨⟨jobOne, by decide⟩⟩
end Go.Proofs.YtnphjhbfpoekpaaGreat
