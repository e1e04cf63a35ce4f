import Derived.Test.YtnphjhbfpoekpaaGreatFfPl
import Derived.Test.YtnphjhbfpoekpaaGreatA22Pl
namespace Go.Proofs.YtnphjhbfpoekpaaGreat
set_option linter.unusedSimpArgs false
set_option linter.unusedVariables false
set_option linter.unnecessarySimpa false
open Go.RowKit
def bmk (k : Int) : Value := .bool (k % 3 == 0)
def bmarks (k0 : Int) (m : Nat) : List Value := (List.range m).map fun (j : Nat) => bmk (k0 + (j : Int))
theorem bmarks_get {k0 : Int} {m j : Nat} (h : j < m) : (bmarks k0 m)[j]? = some (bmk (k0 + (j : Int))) := by simp [bmarks, h]
theorem rd_of_bheap {w : World} {A : Option Addr} {n : Nat} {k0 : Int} (h : 0 < n → ∃ g cur e fr, A = some ⟨g, 0, none⟩ ∧ w.heap[g]? = some (.cells cur e fr) ∧ ∀ j, j < n → cur[j]? = some (bmk (k0 + j))) : Rd w A n 1 (bmarks k0 n) := by
  refine ⟨by simp [bmarks], fun hn => ?_⟩
  obtain ⟨g, cur, e, fr, hA, hh, hc⟩ := h hn
  refine ⟨g, hA, fun j u hj => ?_⟩
  have hjn : j < n := by
    have := (List.getElem?_eq_some_iff.1 hj).1
    simpa [bmarks] using this
  rw [bmarks_get hjn] at hj
  simp only [World.cell?, hh]
  simpa using (hc j hjn).trans hj
set_option maxHeartbeats 2000000 in
theorem markBoolG (A : Option Addr) (n c lo : Nat) (k0 : Int) (w : World) (hn : n ≤ 1048577) (hk0 : 0 ≤ k0) (hk1 : k0 ≤ 2305843009213693952) (hw : Wr w lo A (n * 1) 4) :
    Calls Tryz.prog 106 #[.slice A n c, .int .i64 k0] w fun e w' => e = .returned (.int .i64 (k0 + (n : Int))) ∧ Rd w' A n 1 (bmarks k0 n) ∧ Fr (atB A) w w' := by
  have hm : n ≤ 9223372036854775807 := by omega
  have hkm : k0 + (n : Int) ≤ 9223372036854775800 := by omega
  have HW := Lib.hid hw
  clear hn hk1 hw
  go_enter Tryz.func106, Tryz.ntmps106
  go_wp2
  go_loopw [1, 5] (fun q i wr => ∃ k : Nat, k ≤ n ∧ i = .int .i64 k ∧ q = .int .i64 (k0 + (k : Int)) ∧ Fr (atB A) w wr ∧ (0 < n * 1 → ∃ g cur, A = some ⟨g, 0, none⟩ ∧ wr.heap[g]? = some (.cells cur 4 (0, 0)) ∧ n * 1 ≤ cur.size ∧ ∀ j, j < k → cur[j]? = some (bmk (k0 + j)))) (fun _ i _ => n - (intOf i).toNat)
  case atStart =>
    refine ⟨0, Nat.zero_le _, rfl, by simp, Fr.refl _ _, fun h => ?_⟩
    obtain ⟨g, cur, hA, hg, hh, hs⟩ := HW.out h
    exact ⟨g, cur, hA, hh, hs, fun j hj => absurd hj (by omega)⟩
  case round =>
    obtain ⟨k, hk, rfl, rfl, hb, hcur⟩ := hrel
    by_cases hlt : k < n
    · obtain ⟨g, cur, rfl, hh, hs, hm2⟩ := hcur (by omega)
      obtain ⟨o0, ho0⟩ := zAp (i := k) hh (by omega)
      have hf0 := zAs (i := k) hh
      have HH := Lib.hid hh
      have HM := Lib.hid hm2
      clear hh hcur hm2
      have hlt' : (k : Int) < n := by omega
      have hlt2 : k0 + (k : Int) + 1 ≤ 9223372036854775807 := by omega
      have hlt3 : 0 ≤ k0 + (k : Int) := by omega
      go_wp2
      refine ⟨⟨k + 1, by omega, by go_num, congrArg (Value.int IntKind.i64) (by omega), (hb.setCell (Or.inl ⟨0, rfl⟩) _), fun _ => ⟨g, _, rfl, (zAq HH.out), ?_, ?_⟩⟩, by simp [intOf]; omega⟩
      · simpa using hs
      · intro j hj
        simp only [Array.getElem?_setIfInBounds, Array.size_setIfInBounds]
        have HM' := HM.out j
        split
        · subst_vars
          rw [if_pos (by omega)]
          unfold bmk
          first | rfl | (congr; done) | simp
        · exact HM' (by omega)
    · obtain rfl : k = n := by omega
      go_wp2
      go_ret
      refine ⟨rfl, rd_of_bheap (fun h => ?_), hb⟩
      obtain ⟨g, cur, hA, hh, hs, hm2⟩ := hcur (by omega)
      exact ⟨g, cur, _, _, hA, hh, hm2⟩
set_option maxHeartbeats 1000000 in
theorem heldBoolG (A : Option Addr) (n c : Nat) (k0 : Int) (w : World) (hn : n ≤ 1048577) (hk0 : 0 ≤ k0) (hk1 : k0 ≤ 2305843009213693952) (hr : Rd w A n 1 (bmarks k0 n)) :
    Calls Tryz.prog 112 #[.slice A n c, .int .i64 k0] w fun e w' => e = .returned (.int .i64 (k0 + (n : Int))) ∧ w = w' := by
  have hm : n ≤ 9223372036854775807 := by omega
  have hkm : k0 + (n : Int) ≤ 9223372036854775800 := by omega
  have HR := Lib.hid hr
  clear hn hk1 hr
  go_enter Tryz.func112, Tryz.ntmps112
  go_wp2
  go_loop [1, 5] (fun q i => ∃ k : Nat, k ≤ n ∧ i = .int .i64 k ∧ q = .int .i64 (k0 + (k : Int))) (fun _ i => n - (intOf i).toNat)
  case atStart => exact ⟨0, Nat.zero_le _, rfl, by simp⟩
  case round =>
    obtain ⟨k, hk, rfl, rfl⟩ := hrel
    by_cases hlt : k < n
    · obtain ⟨g, u, rfl, hu, hc⟩ := HR.out.at_ hlt
      rw [bmarks_get hlt] at hu
      obtain rfl := Option.some.inj hu
      have hlt' : (k : Int) < n := by omega
      have hlt2 : k0 + (k : Int) + 1 ≤ 9223372036854775807 := by omega
      have hlt3 : 0 ≤ k0 + (k : Int) := by omega
      clear HR hu
      by_cases h3 : (k0 + (k : Int)) % 3 = 0
      · have c0 : w.cell? ⟨g, k, none⟩ = some (.bool true) := hc.trans (by simp [bmk, h3])
        clear hc
        go_wp2
        exact ⟨⟨k + 1, by omega, by go_num, congrArg (Value.int IntKind.i64) (by omega)⟩, by simp [intOf]; omega⟩
      · have c0 : w.cell? ⟨g, k, none⟩ = some (.bool false) := hc.trans (by simp [bmk, h3])
        clear hc
        go_wp2
        exact ⟨⟨k + 1, by omega, by go_num, congrArg (Value.int IntKind.i64) (by omega)⟩, by simp [intOf]; omega⟩
    · obtain rfl : k = n := by omega
      go_wp2
      go_ret
      exact ⟨rfl, rfl⟩
set_option maxHeartbeats 1000000 in
theorem markIntG (A : Option Addr) (n c lo : Nat) (k0 : Int) (w : World) (hn : n ≤ 1048577) (hk0 : 0 ≤ k0) (hk1 : k0 ≤ 2305843009213693952) (hw : Wr w lo A (n * 1) 3) :
    Calls Tryz.prog 123 #[.slice A n c, .int .i64 k0] w fun e w' => e = .returned (.int .i64 (k0 + 1 * (n : Int))) ∧ Rd w' A n 1 (imarks k0 (n * 1)) ∧ Fr (atB A) w w' := by
  have hm : n ≤ 9223372036854775807 := by omega
  have hkm : k0 + 1 * (n : Int) ≤ 9223372036854775800 := by omega
  have HW := Lib.hid hw
  clear hn hk1 hw
  go_enter Tryz.func123, Tryz.ntmps123
  go_wp2
  go_loopw [1, 5] (fun q i wr => ∃ k : Nat, k ≤ n ∧ i = .int .i64 k ∧ q = .int .i64 (k0 + 1 * (k : Int)) ∧ Fr (atB A) w wr ∧ (0 < n * 1 → ∃ g cur, A = some ⟨g, 0, none⟩ ∧ wr.heap[g]? = some (.cells cur 3 (0, 0)) ∧ n * 1 ≤ cur.size ∧ ∀ j, j < k * 1 → cur[j]? = some (.int .i64 (k0 + j)))) (fun _ i _ => n - (intOf i).toNat)
  case atStart =>
    refine ⟨0, Nat.zero_le _, rfl, by simp, Fr.refl _ _, fun h => ?_⟩
    obtain ⟨g, cur, hA, hg, hh, hs⟩ := HW.out h
    exact ⟨g, cur, hA, hh, hs, fun j hj => absurd hj (by omega)⟩
  case round =>
    obtain ⟨k, hk, rfl, rfl, hb, hcur⟩ := hrel
    by_cases hlt : k < n
    · obtain ⟨g, cur, rfl, hh, hs, hm2⟩ := hcur (by omega)
      obtain ⟨o0, ho0⟩ := zAp (i := k) hh (by omega)
      have hf0 := zAs (i := k) hh
      have HM := Lib.hid hm2
      have HH := Lib.hid hh
      clear hm2 hh hcur
      have hlt' : (k : Int) < n := by omega
      have hlt2 : k0 + 1 * (k : Int) + 1 ≤ 9223372036854775807 := by omega
      have hlt3 : 0 ≤ k0 + 1 * (k : Int) := by omega
      go_wp2
      refine ⟨⟨k + 1, by omega, by go_num, congrArg (Value.int IntKind.i64) (by omega), (hb.setCell (Or.inl ⟨0, rfl⟩) _), fun _ => ⟨g, _, rfl, (zAq HH.out), ?_, ?_⟩⟩, by simp [intOf]; omega⟩
      · simpa using hs
      · intro j hj
        simp only [Array.getElem?_setIfInBounds, Array.size_setIfInBounds]
        have HM' := HM.out j
        repeat' split
        all_goals first
          | omega
          | exact HM' (by omega)
          | exact congrArg (fun z => some (Value.int IntKind.i64 z)) (by omega)
    · obtain rfl : k = n := by omega
      go_wp2
      go_ret
      refine ⟨rfl, rd_of_heap (fun h => ?_) (by omega), hb⟩
      obtain ⟨g, cur, hA, hh, hs, hm2⟩ := hcur h
      exact ⟨g, cur, _, _, hA, hh, hm2⟩
set_option maxHeartbeats 1000000 in
theorem markTopoG (A B : Option Addr) (n c m d lo lo2 : Nat) (w : World) (hn : n ≤ 1048577) (hm : m ≤ 1048577) (hw : Wr w lo A (n * 1) 3) (hw2 : Wr w lo2 B (m * 4) 199) (hne : ∀ k, atB A k → ¬ atB B k) (hnb : ∀ k, atB A k → k < w.heap.size) :
    Calls Tryz.prog 43 #[.agg #[.slice A n c, .slice B m d], .int .i64 1] w fun e w' => e = .returned (.int .i64 (1 + 1 * (n : Int) + 4 * (m : Int))) ∧ Rd w' A n 1 (imarks 1 (n * 1)) ∧ Rd w' B m 4 (imarks (1 + 1 * (n : Int)) (m * 4)) ∧ Fr (atT A B) w w' := by
  have hp : 0 ≤ 1 + 1 * (n : Int) := by omega
  have hp2 : 1 + 1 * (n : Int) ≤ 1099511627776 := by omega
  have HN := Lib.hid hn
  have HM := Lib.hid hm
  have HW := Lib.hid hw
  have HW2 := Lib.hid hw2
  have HNE := Lib.hid hne
  have HNB := Lib.hid hnb
  clear hn hm hw hw2 hne hnb
  go_enter Tryz.func43, Tryz.ntmps43
  go_wp2_with fail
  refine (markIntF A n c lo 1 _ HN.out (by omega) (by omega) (HW.out.below (zAa _ _))).mono ?_
  rintro e w1 ⟨rfl, rd1, fr1⟩
  have RD1 := Lib.hid rd1
  clear rd1
  have hk1 := fun o => fr1.cell (b := w.heap.size) (by simp) (fun h => by
    obtain ⟨o, hA⟩ := h
    have hb := HNB.out _ ⟨o, hA⟩
    omega) o
  have FR1 := Lib.hid fr1
  clear fr1
  go_wp2_with fail
  refine (markNodeF B m d lo2 _ _ HM.out (by omega) (by omega) (Wr.fr (HW2.out.below (zAa _ _)) FR1.out (fun k h1 h2 => HNE.out k h2 h1))).mono ?_
  rintro e w2 ⟨rfl, rd2, fr2⟩
  have RD2 := Lib.hid rd2
  clear rd2
  have RD1' := Lib.hid (Rd.fr RD1.out (fun g hg => Nat.lt_of_lt_of_le (HNB.out g ⟨0, hg⟩) (Nat.le_trans (by simp) FR1.out.size)) fr2 (fun k h1 h2 => HNE.out k h1 h2))
  have FR2 := Lib.hid fr2
  clear fr2
  go_wp2
  go_ret
  exact ⟨ret_int (by omega), RD1'.out, by rw [show (1 + 1 * (n : Int)) = 1 + n by omega]; exact RD2.out, ((Fr.of_below _ (zAa _ _)).trans (FR1.out.mono (fun k hk => Or.inl hk))).trans (FR2.out.mono (fun k hk => Or.inr hk))⟩
set_option maxHeartbeats 1000000 in
theorem heldTopoG (A B : Option Addr) (n c m d : Nat) (w : World) (hn : n ≤ 1048577) (hm : m ≤ 1048577) (hr : Rd w A n 1 (imarks 1 (n * 1))) (hq : Rd w B m 4 (imarks (1 + 1 * (n : Int)) (m * 4))) (hl : ∀ g, A = some ⟨g, 0, none⟩ → g < w.heap.size) (hl2 : ∀ g, B = some ⟨g, 0, none⟩ → g < w.heap.size) :
    Calls Tryz.prog 111 #[.agg #[.slice A n c, .slice B m d], .int .i64 1] w fun e w' => e = .returned (.int .i64 (1 + 1 * (n : Int) + 4 * (m : Int))) ∧ Below w.heap.size w w' := by
  have hp : 0 ≤ 1 + (n : Int) := by omega
  have hp2 : 1 + (n : Int) ≤ 1099511627776 := by omega
  have hp3 : 0 ≤ 1 + (n : Int) + 4 * (m : Int) := by omega
  have hq' : Rd w B m 4 (imarks (1 + (n : Int)) (m * 4)) := by simpa using hq
  have HN := Lib.hid hn
  have HM := Lib.hid hm
  have HR := Lib.hid hr
  have HQ := Lib.hid hq'
  have HL := Lib.hid hl
  have HL2 := Lib.hid hl2
  clear hn hm hr hq hq' hl hl2
  go_enter Tryz.func111, Tryz.ntmps111
  go_wp2_with fail
  refine (heldInt_any A n c 1 _ HN.out (by omega) (by omega) (HR.out.below HL.out (zAa _ _))).mono ?_
  rintro e w1 ⟨rfl, rfl⟩
  go_wp2_with fail
  refine (heldNode_any B m d _ _ HM.out (by omega) (by omega) (HQ.out.below HL2.out (zAa _ _))).mono ?_
  rintro e w2 ⟨rfl, rfl⟩
  go_wp2
  go_ret
  exact ⟨ret_int (by omega), zAa _ _⟩
def cntP (pss : List (List Q)) : Nat := (pss.map List.length).sum
structure PM (w : World) (A : Option Addr) (n : Nat) (xs : List Value) (pss : List (List Q)) (k0 : Int) (k : Nat) : Prop where
  row : Rd w A n 1 xs
  rl : ∀ g, A = some ⟨g, 0, none⟩ → g < w.heap.size
  len : pss.length = n
  each : ∀ (i : Nat) x ps, i < k → xs[i]? = some x → pss[i]? = some ps → ps.length ≤ 1048576 ∧ ∃ B c, x = .slice B ps.length c ∧ Rd w B ps.length 4 (imarks (k0 + 4 * (cntP (pss.take i) : Int)) (ps.length * 4)) ∧ ∀ g, B = some ⟨g, 0, none⟩ → g < w.heap.size
theorem PM.fr {S : Nat → Prop} {w w' : World} {A : Option Addr} {n : Nat} {xs : List Value} {pss : List (List Q)} {k0 : Int} {k : Nat} (h : PM w A n xs pss k0 k) (hb : Fr S w w') (h1 : ∀ b, atB A b → ¬ S b) (h2 : ∀ b, atX xs k b → ¬ S b) : PM w' A n xs pss k0 k :=
  ⟨h.row.fr h.rl hb h1, fun g hg => Nat.lt_of_lt_of_le (h.rl g hg) hb.size, h.len, fun i x ps hi hx hp => by
    obtain ⟨hl, B, c, rfl, hr, hB⟩ := h.each i x ps hi hx hp
    exact ⟨hl, B, c, rfl, hr.fr hB hb (fun b hb2 => h2 b ⟨i, _, hi, hx, atB_own' hb2⟩), fun g hg => Nat.lt_of_lt_of_le (hB g hg) hb.size⟩⟩
theorem PM.bel {w w' : World} {A : Option Addr} {n : Nat} {xs : List Value} {pss : List (List Q)} {k0 : Int} {k : Nat} (h : PM w A n xs pss k0 k) (hb : Below w.heap.size w w') : PM w' A n xs pss k0 k :=
  h.fr (Fr.of_below (fun _ => False) hb) (fun _ _ h => h) (fun _ _ h => h)
structure RoomMk (w : World) (a : RA) (r : Rm) (xs : List Value) : Prop where
  n : a.n ≤ 1048576
  m : a.m ≤ 1048576
  nu : a.nu ≤ 1048576
  np : a.np ≤ 1048576
  nl : a.nl ≤ 1048576
  cn : 4 * (cntP r.profs : Int) ≤ 4194304 * (a.np : Int)
  par : Rd w a.A a.n 1 (imarks 1 (a.n * 1))
  nodes : Rd w a.B a.m 4 (imarks (1 + 1 * (a.n : Int)) (a.m * 4))
  up : Rd w a.U a.nu 1 (bmarks (1 + 1 * (a.n : Int) + 4 * (a.m : Int)) a.nu)
  profs : PM w a.R a.np xs r.profs (1 + 1 * (a.n : Int) + 4 * (a.m : Int) + (a.nu : Int)) a.np
  lics : Rd w a.L a.nl 4 (imarks (1 + 1 * (a.n : Int) + 4 * (a.m : Int) + (a.nu : Int) + 4 * (cntP r.profs : Int)) (a.nl * 4))
  lA : ∀ g, a.A = some ⟨g, 0, none⟩ → g < w.heap.size
  lB : ∀ g, a.B = some ⟨g, 0, none⟩ → g < w.heap.size
  lU : ∀ g, a.U = some ⟨g, 0, none⟩ → g < w.heap.size
  lL : ∀ g, a.L = some ⟨g, 0, none⟩ → g < w.heap.size
theorem RoomMk.bel {w w' : World} {a : RA} {r : Rm} {xs : List Value} (h : RoomMk w a r xs) (hb : Below w.heap.size w w') : RoomMk w' a r xs :=
  ⟨h.n, h.m, h.nu, h.np, h.nl, h.cn, h.par.below h.lA hb, h.nodes.below h.lB hb, h.up.below h.lU hb, h.profs.bel hb, h.lics.below h.lL hb, zAi h.lA hb, zAi h.lB hb, zAi h.lU hb, zAi h.lL hb⟩
theorem own_atB {w : World} {lo : Nat} {e : TypeId} {size : Nat} {A : Option Addr} {n c m : Nat} {xs : List Value} (h : w.ownsRow lo e size (.slice A n c) m xs) {k : Nat} (hk : (Value.slice A n c).ownBlock = some k) : atB A k := by
  rcases h.2 with ⟨h0, _⟩ | ⟨g, cap, cur, hv, _⟩
  · cases h0; cases hk
  · cases hv; cases hk; exact ⟨0, rfl⟩
def atQ (a : RA) (xs : List Value) (b : Nat) : Prop := atR a xs b ∨ atB a.R b
theorem RoomOwn.fr {S : Nat → Prop} {w w' : World} {lo : Nat} {a : RA} {r : Rm} {xs : List Value} (h : RoomOwn w lo a r xs) (hb : Fr S w w') (hd : ∀ b, atQ a xs b → ¬ S b) : RoomOwn w' lo a r xs :=
  ⟨h.n, h.m, h.nu, h.np, h.nl, own_fr h.par hb (fun k hk => hd k (Or.inl (Or.inl (own_atB h.par hk)))), own_fr h.nodes hb (fun k hk => hd k (Or.inl (Or.inr (Or.inl (own_atB h.nodes hk))))), own_fr h.up hb (fun k hk => hd k (Or.inl (Or.inr (Or.inr (Or.inl (own_atB h.up hk)))))),
   h.profs.fr hb (fun k hk => hd k (Or.inr hk)) (fun k hk => hd k (Or.inl (Or.inr (Or.inr (Or.inr (Or.inl hk)))))), own_fr h.lics hb (fun k hk => hd k (Or.inl (Or.inr (Or.inr (Or.inr (Or.inr (own_atB h.lics hk))))))), h.apart⟩
theorem RoomMk.fr {S : Nat → Prop} {w w' : World} {a : RA} {r : Rm} {xs : List Value} (h : RoomMk w a r xs) (hb : Fr S w w') (hd : ∀ b, atQ a xs b → ¬ S b) : RoomMk w' a r xs :=
  ⟨h.n, h.m, h.nu, h.np, h.nl, h.cn, h.par.fr h.lA hb (fun k hk => hd k (Or.inl (Or.inl hk))), h.nodes.fr h.lB hb (fun k hk => hd k (Or.inl (Or.inr (Or.inl hk)))), h.up.fr h.lU hb (fun k hk => hd k (Or.inl (Or.inr (Or.inr (Or.inl hk))))), h.profs.fr hb (fun k hk => hd k (Or.inr hk)) (fun k hk => hd k (Or.inl (Or.inr (Or.inr (Or.inr (Or.inl hk)))))), h.lics.fr h.lL hb (fun k hk => hd k (Or.inl (Or.inr (Or.inr (Or.inr (Or.inr hk)))))), lt_fr h.lA hb, lt_fr h.lB hb, lt_fr h.lU hb, lt_fr h.lL hb⟩
end Go.Proofs.YtnphjhbfpoekpaaGreat
