/-
  Marks on a room of the call's own.
-/
import Derived.Test.YtpfcegjomdppmaaA8
import Derived.Test.YtpfcegjomdppmaaA6
import Derived.Test.YtpfcegjomdppmaaA3
namespace Go.Proofs.Ytpfcegjomdppmaa
set_option linter.unusedSimpArgs false
set_option linter.unusedVariables false
set_option linter.unnecessarySimpa false
open Go.RowKit

set_option maxHeartbeats 1000000 in
theorem markPtG (A : Option Addr) (n c lo : Nat) (k0 : Int) (w : World) (hn : n ≤ 1048577) (hk0 : 0 ≤ k0) (hk1 : k0 ≤ 2305843009213693952) (hw : Wr w lo A (n * 4) 138) :
    Calls Try.prog 98 #[.slice A n c, .int .i64 k0] w fun e w' => e = .returned (.int .i64 (k0 + 4 * (n : Int))) ∧ Rd w' A n 4 (imarks k0 (n * 4)) ∧ Fr (atB A) w w' := by
  have hm : n ≤ 9223372036854775807 := by omega
  have hkm : k0 + 4 * (n : Int) ≤ 9223372036854775800 := by omega
  have HW := Lib.hid hw
  clear hn hk1 hw
  go_enter Try.func98, Try.ntmps98
  go_wp2
  go_loopw [1, 5] (fun q i wr => ∃ k : Nat, k ≤ n ∧ i = .int .i64 k ∧ q = .int .i64 (k0 + 4 * (k : Int)) ∧ Fr (atB A) w wr ∧ (0 < n * 4 → ∃ g cur, A = some ⟨g, 0, none⟩ ∧ wr.heap[g]? = some (.cells cur 138 (0, 0)) ∧ n * 4 ≤ cur.size ∧ ∀ j, j < k * 4 → cur[j]? = some (.int .i64 (k0 + j)))) (fun _ i _ => n - (intOf i).toNat)
  case atStart =>
    refine ⟨0, Nat.zero_le _, rfl, by simp, Fr.refl _ _, fun h => ?_⟩
    obtain ⟨g, cur, hA, hg, hh, hs⟩ := HW.out h
    exact ⟨g, cur, hA, hh, hs, fun j hj => absurd hj (by omega)⟩
  case round =>
    obtain ⟨k, hk, rfl, rfl, hb, hcur⟩ := hrel
    by_cases hlt : k < n
    · obtain ⟨g, cur, rfl, hh, hs, hm2⟩ := hcur (by omega)
      obtain ⟨o0, ho0⟩ := cell_of_heap (i := k * 4) hh (by omega)
      have hf0 := frozen_of_heap (i := k * 4) hh
      obtain ⟨o1, ho1⟩ := cell_of_heap (i := k * 4 + 1) hh (by omega)
      have hf1 := frozen_of_heap (i := k * 4 + 1) hh
      obtain ⟨o2, ho2⟩ := cell_of_heap (i := k * 4 + 2) hh (by omega)
      have hf2 := frozen_of_heap (i := k * 4 + 2) hh
      obtain ⟨o3, ho3⟩ := cell_of_heap (i := k * 4 + 3) hh (by omega)
      have hf3 := frozen_of_heap (i := k * 4 + 3) hh
      have HM := Lib.hid hm2
      have HH := Lib.hid hh
      clear hm2 hh hcur
      have hlt' : (k : Int) < n := by omega
      have hlt2 : k0 + 4 * (k : Int) + 4 ≤ 9223372036854775807 := by omega
      have hlt3 : 0 ≤ k0 + 4 * (k : Int) := by omega
      go_wp2
      refine ⟨⟨k + 1, by omega, by go_num, congrArg (Value.int IntKind.i64) (by omega), ((((hb.setCell (Or.inl ⟨0, rfl⟩) _).setCell (Or.inl ⟨0, rfl⟩) _).setCell (Or.inl ⟨0, rfl⟩) _).setCell (Or.inl ⟨0, rfl⟩) _), fun _ => ⟨g, _, rfl, (heap_set (heap_set (heap_set (heap_set HH.out)))), ?_, ?_⟩⟩, by simp [intOf]; omega⟩
      · simpa using hs
      · intro j hj
        simp only [Array.getElem?_setIfInBounds, Array.size_setIfInBounds]
        have HM' := HM.out j
        repeat' split
        all_goals first
          | omega
          | exact HM' (by omega)
          | exact congrArg (fun z => some (Value.int IntKind.i64 z)) (by omega)
    · obtain rfl : k = n := by omega
      go_wp2
      go_ret
      refine ⟨rfl, rd_of_heap (fun h => ?_) (by omega), hb⟩
      obtain ⟨g, cur, hA, hh, hs, hm2⟩ := hcur h
      exact ⟨g, cur, _, _, hA, hh, hm2⟩

set_option maxHeartbeats 1000000 in
theorem markProfG (A : Option Addr) (n c lo : Nat) (k0 : Int) (w : World) (hn : n ≤ 1048577) (hk0 : 0 ≤ k0) (hk1 : k0 ≤ 2305843009213693952) (hw : Wr w lo A (n * 4) 138) :
    Calls Try.prog 40 #[.agg #[.slice A n c], .int .i64 k0] w fun e w' => e = .returned (.int .i64 (k0 + 4 * (n : Int))) ∧ Fr (atB A) w w' := by
  have HN := Lib.hid hn
  have HW := Lib.hid hw
  have H0 := Lib.hid hk0
  have H1 := Lib.hid hk1
  clear hn hk0 hk1 hw
  go_enter Try.func40, Try.ntmps40
  go_wp2_with fail
  refine (markPtG A n c lo k0 _ HN.out H0.out H1.out (HW.out.below (below_alloc _ _))).mono ?_
  rintro e w1 ⟨rfl, rd1, fr1⟩
  have FR1 := Lib.hid fr1
  clear rd1 fr1
  go_wp2
  go_ret
  exact ⟨rfl, (Fr.of_below _ (below_alloc _ _)).trans FR1.out⟩
set_option maxHeartbeats 2000000 in
theorem markBoolF (A : Option Addr) (n c lo : Nat) (k0 : Int) (w : World) (hn : n ≤ 1048577) (hk0 : 0 ≤ k0) (hk1 : k0 ≤ 2305843009213693952) (hw : Wr w lo A (n * 1) 4) :
    Calls Try.prog 84 #[.slice A n c, .int .i64 k0] w fun e w' => e = .returned (.int .i64 (k0 + (n : Int))) ∧ Fr (atB A) w w' := by
  have hm : n ≤ 9223372036854775807 := by omega
  have hkm : k0 + (n : Int) ≤ 9223372036854775800 := by omega
  have HW := Lib.hid hw
  clear hn hk1 hw
  go_enter Try.func84, Try.ntmps84
  go_wp2
  go_loopw [1, 5] (fun q i wr => ∃ k : Nat, k ≤ n ∧ i = .int .i64 k ∧ q = .int .i64 (k0 + (k : Int)) ∧ Fr (atB A) w wr ∧ (0 < n * 1 → ∃ g cur, A = some ⟨g, 0, none⟩ ∧ wr.heap[g]? = some (.cells cur 4 (0, 0)) ∧ n * 1 ≤ cur.size)) (fun _ i _ => n - (intOf i).toNat)
  case atStart =>
    refine ⟨0, Nat.zero_le _, rfl, by simp, Fr.refl _ _, fun h => ?_⟩
    obtain ⟨g, cur, hA, hg, hh, hs⟩ := HW.out h
    exact ⟨g, cur, hA, hh, hs⟩
  case round =>
    obtain ⟨k, hk, rfl, rfl, hb, hcur⟩ := hrel
    by_cases hlt : k < n
    · obtain ⟨g, cur, rfl, hh, hs⟩ := hcur (by omega)
      obtain ⟨o0, ho0⟩ := cell_of_heap (i := k) hh (by omega)
      have hf0 := frozen_of_heap (i := k) hh
      have HH := Lib.hid hh
      clear hh hcur
      have hlt' : (k : Int) < n := by omega
      have hlt2 : k0 + (k : Int) + 1 ≤ 9223372036854775807 := by omega
      have hlt3 : 0 ≤ k0 + (k : Int) := by omega
      go_wp2
      all_goals (refine ⟨⟨k + 1, by omega, by go_num, congrArg (Value.int IntKind.i64) (by omega), (hb.setCell (Or.inl ⟨0, rfl⟩) _), fun _ => ⟨g, _, rfl, (heap_set HH.out), ?_⟩⟩, by simp [intOf]; omega⟩; simpa using hs)
    · obtain rfl : k = n := by omega
      go_wp2
      go_ret
      exact ⟨rfl, hb⟩
/-- The blocks of a row of slices. -/
def atX (xs : List Value) (k : Nat) (b : Nat) : Prop := ∃ i x, i < k ∧ xs[i]? = some x ∧ x.ownBlock = some b
theorem atB_own {A : Option Addr} {n c g : Nat} (h : (Value.slice A n c).ownBlock = some g) : ∃ o t, A = some ⟨g, o, t⟩ := by
  cases A with
  | none => cases h
  | some a => cases h; exact ⟨_, _, rfl⟩
set_option maxHeartbeats 2000000 in
theorem markProfS_any (A : Option Addr) (n c lo : Nat) (k0 : Int) (pss : List (List Q)) (xs : List Value) (w : World) (hn : n ≤ 1048577) (hk0 : 0 ≤ k0) (hk1 : k0 ≤ 1099511627776) (hp : OwnP w lo (.slice A n c) n xs pss) :
    Calls Try.prog 85 #[.slice A n c, .int .i64 k0] w fun e w' => (∃ K : Int, e = .returned (.int .i64 K) ∧ 0 ≤ K ∧ K ≤ k0 + 4194304 * (n : Int)) ∧ Fr (atX xs n) w w' := by
  have hm : n ≤ 9223372036854775807 := by omega
  have hxl := hp.xlen
  have HP := Lib.hid hp
  have HN := Lib.hid hn
  have hK1 := Lib.hid hk1
  clear hp hn
  go_enter Try.func85, Try.ntmps85
  go_wp2
  go_loopw [1, 5] (fun q i wr => ∃ (k : Nat) (K : Int), k ≤ n ∧ i = .int .i64 k ∧ q = .int .i64 K ∧ 0 ≤ K ∧ K ≤ k0 + 4194304 * (k : Int) ∧ Fr (atX xs k) w wr) (fun _ i _ => n - (intOf i).toNat)
  case atStart => exact ⟨0, k0, Nat.zero_le _, rfl, rfl, hk0, by omega, Fr.refl _ _⟩
  case round =>
    obtain ⟨k, K, hk, rfl, rfl, hK0, hK9, hb⟩ := hrel
    by_cases hlt : k < n
    · have hlt' : (k : Int) < n := by omega
      obtain ⟨g, x, rfl, hx, hc⟩ := (own_rdd' HP.out.own).at_ hlt
      have hps : ∃ ps, pss[k]? = some ps := ⟨_, List.getElem?_eq_getElem (by have := HP.out.len; omega)⟩
      obtain ⟨ps, hps⟩ := hps
      obtain ⟨hle, hox⟩ := HP.out.each k x ps hx hps
      obtain ⟨B, c', rfl, rdx⟩ := own_rd hox
      have hgl := own_blk HP.out.own g rfl
      have hng : ¬ atX xs k g := by
        rintro ⟨i, x', hi, hx', ho⟩
        obtain ⟨ps', hps'⟩ : ∃ ps', pss[i]? = some ps' := ⟨_, List.getElem?_eq_getElem (by have := HP.out.len; omega)⟩
        exact own_ap (HP.out.each i x' ps' hx' hps').2 HP.out.own (by decide) g ho rfl
      have hcr := (hb.cell hgl hng k).trans hc
      have hw : Wr wr lo B (ps.length * 4) 138 := (own_wr2 hox).fr hb (by
        rintro b ⟨o, hB⟩ ⟨i, x', hi, hx', ho⟩
        subst hB
        exact HP.out.apart i k x' _ hi hx' hx b ho rfl)
      have HW := Lib.hid hw
      have HX := Lib.hid hx
      have HB := Lib.hid hb
      clear hx hps hox rdx hng hw hb hc
      have hk9 : K ≤ 2305843009213693952 := by have := hK1.out; have := HN.out; omega
      go_wp2_with fail
      refine (markPtG B ps.length c' lo K _ (by omega) hK0 hk9 HW.out).mono ?_
      rintro e w1 ⟨rfl, rd1, fr1⟩
      have hF1 : Fr (atX xs (k + 1)) w w1 := (HB.out.mono (by rintro b ⟨i, x', hi, h1, h2⟩; exact ⟨i, x', by omega, h1, h2⟩)).trans (fr1.mono (by
        rintro b ⟨o, hB⟩
        subst hB
        exact ⟨k, _, by omega, HX.out, rfl⟩))
      have HF1 := Lib.hid hF1
      clear rd1 fr1 hF1
      go_wp2
      go_roundw
      case rel => exact ⟨k + 1, K + 4 * (ps.length : Int), by omega, by go_num, by first | rfl | (congr 1; omega), by omega, by omega, HF1.out⟩
      case measure => simp [intOf]; omega
    · obtain rfl : k = n := by omega
      go_wp2
      go_ret
      exact ⟨⟨K, rfl, hK0, hK9⟩, hb⟩
/-- The blocks of a room. -/
def atR (a : RA) (xs : List Value) (b : Nat) : Prop := atB a.A b ∨ atB a.B b ∨ atB a.U b ∨ atX xs a.np b ∨ atB a.L b
theorem room_rng {w : World} {lo : Nat} {a : RA} {r : Rm} {xs : List Value} (h : RoomOwn w lo a r xs) : ∀ k, atR a xs k → lo ≤ k ∧ k < w.heap.size := by
  rintro k (h1 | h1 | h1 | ⟨i, x, hi, hx, hk⟩ | h1)
  · exact own_rng h.par k h1
  · exact own_rng h.nodes k h1
  · exact own_rng h.up k h1
  · obtain ⟨ps, hps⟩ : ∃ ps, r.profs[i]? = some ps := ⟨_, List.getElem?_eq_getElem (by have := h.profs.len; omega)⟩
    have ho := (h.profs.each i x ps hx hps).2
    obtain ⟨B, c', rfl, _⟩ := own_rd ho
    obtain ⟨o, t, rfl⟩ := atB_own hk
    have h2 := own_ge ho k rfl
    rcases ho.2 with ⟨h0, _⟩ | ⟨g, cap, cur, hv, hg, hh, _⟩
    · cases h0
    · cases hv; exact ⟨hg, heap_lt hh⟩
  · exact own_rng h.lics k h1
theorem OwnP.fr {S : Nat → Prop} {w w' : World} {lo : Nat} {A : Option Addr} {n c : Nat} {xs : List Value} {pss : List (List Q)} (h : OwnP w lo (.slice A n c) n xs pss) (hb : Fr S w w') (h1 : ∀ k, atB A k → ¬ S k) (h2 : ∀ k, atX xs n k → ¬ S k) : OwnP w' lo (.slice A n c) n xs pss :=
  ⟨own_fr h.own hb (fun k hk => h1 k (by obtain ⟨o, t, rfl⟩ := atB_own hk; rcases h.own.2 with ⟨h0, _⟩ | ⟨g, cap, cur, hv, _⟩; · cases h0
                                         · cases hv; cases hk; exact ⟨0, rfl⟩)), h.len, fun k x ps hx hp => ⟨(h.each k x ps hx hp).1, own_fr (h.each k x ps hx hp).2 hb (fun b hk => h2 b ⟨k, x, by have := (List.getElem?_eq_some_iff.1 hx).1; have := h.xlen; omega, hx, hk⟩)⟩, h.apart⟩
theorem ownp_x {w : World} {lo lo' : Nat} {R A : Option Addr} {n c m d size : Nat} {e : TypeId} {xs ys : List Value} {pss : List (List Q)} (h : OwnP w lo (.slice R n c) n xs pss) (h' : w.ownsRow lo' e size (.slice A m d) m ys) (he : 138 ≠ e) : ∀ k, atB A k → ¬ atX xs n k := by
  rintro k ⟨o, rfl⟩ ⟨i, x, hi, hx, ho⟩
  obtain ⟨ps, hps⟩ : ∃ ps, pss[i]? = some ps := ⟨_, List.getElem?_eq_getElem (by have := h.len; omega)⟩
  exact own_ap (h.each i x ps hx hps).2 h' he k ho rfl
set_option maxHeartbeats 4000000 in
set_option maxRecDepth 20000 in
theorem markRoom_any (a : RA) (r : Rm) (xs : List Value) (lo : Nat) (w : World) (h : RoomOwn w lo a r xs) :
    Calls Try.prog 25 #[a.v, .int .i64 1] w fun e w' => (∃ K : Int, e = .returned (.int .i64 K) ∧ 0 ≤ K) ∧ Fr (atR a xs) w w' := by
  have hrr := room_rng h
  obtain ⟨n9, m9, nu9, np9, nl9, hpar, hnod, hup, hpro, hlic, hap⟩ := h
  obtain ⟨A, B, U, R, L, n, m, nu, np, nl, c, d, cu, cp, cl⟩ := a
  dsimp only [RA.v]
  dsimp only at *
  have HR := Lib.hid hrr
  have HAP := Lib.hid hap
  have HAB := Lib.hid (own_apart hpar hnod (by decide))
  have HAU := Lib.hid (own_apart hpar hup (by decide))
  have HBU := Lib.hid (own_apart hnod hup (by decide))
  have HAL := Lib.hid (own_apart hpar hlic (by decide))
  have HBL := Lib.hid (own_apart hnod hlic (by decide))
  have HUL := Lib.hid (own_apart hup hlic (by decide))
  have HAR := Lib.hid (own_apart hpar hpro.own (by decide))
  have HBR := Lib.hid (own_apart hnod hpro.own (by decide))
  have HUR := Lib.hid (own_apart hup hpro.own (by decide))
  have HAX := Lib.hid (ownp_x hpro hpar (by decide))
  have HBX := Lib.hid (ownp_x hpro hnod (by decide))
  have HUX := Lib.hid (ownp_x hpro hup (by decide))
  have WA := Lib.hid (own_wr2 hpar)
  have WB := Lib.hid (own_wr2 hnod)
  have WU := Lib.hid (own_wr2 hup)
  have WL := Lib.hid (own_wr2 hlic)
  have OP := Lib.hid hpro
  clear hrr hap hpar hnod hup hpro hlic
  go_enter Try.func25, Try.ntmps25
  go_wp2_with fail
  refine (markTopo_any A B n c m d lo lo _ (by omega) (by omega) (WA.out.below (below_alloc _ _)) (WB.out.below (below_alloc _ _)) HAB.out (fun k hk => by have := HR.out k (Or.inl hk); simp; omega)).mono ?_
  rintro e w1 ⟨rfl, fr1⟩
  have hb0 : 0 ≤ 1 + 1 * (n : Int) + 4 * (m : Int) := by omega
  have hb1 : 1 + 1 * (n : Int) + 4 * (m : Int) ≤ 549755813888 := by omega
  generalize 1 + 1 * (n : Int) + 4 * (m : Int) = K1 at *
  have NT : ¬ atT A B w.heap.size := by
    rintro (h | h)
    · have := HR.out _ (Or.inl h); omega
    · have := HR.out _ (Or.inr (Or.inl h)); omega
  have hs1 := fr1.size
  (try simp at hs1)
  have hk1 := fun o => fr1.cell (b := w.heap.size) (by simp) NT o
  have WU1 := Lib.hid ((WU.out.below (below_alloc _ (.cells #[.slice A n c, .slice B m d, .slice U nu cu, .slice R np cp, .slice L nl cl] 55))).fr fr1 (by
    rintro k hk (h | h)
    · exact HAU.out k h hk
    · exact HBU.out k h hk))
  have OP1 := Lib.hid ((OP.out.bel (below_alloc _ (.cells #[.slice A n c, .slice B m d, .slice U nu cu, .slice R np cp, .slice L nl cl] 55))).fr fr1 (by
    rintro k hk (h | h)
    · exact HAR.out k h hk
    · exact HBR.out k h hk) (by
    rintro k hk (h | h)
    · exact HAX.out k h hk
    · exact HBX.out k h hk))
  have WL1 := Lib.hid ((WL.out.below (below_alloc _ (.cells #[.slice A n c, .slice B m d, .slice U nu cu, .slice R np cp, .slice L nl cl] 55))).fr fr1 (by
    rintro k hk (h | h)
    · exact HAL.out k h hk
    · exact HBL.out k h hk))
  have F1 : Hid (Fr (atR ⟨A, B, U, R, L, n, m, nu, np, nl, c, d, cu, cp, cl⟩ xs) w w1) := Lib.hid ((Fr.of_below _ (below_alloc _ _)).trans (fr1.mono (by
    rintro k (h | h)
    · exact Or.inl h
    · exact Or.inr (Or.inl h))))
  clear WU OP WL NT
  have hb2 : K1 ≤ 2305843009213693952 := by omega
  go_wp2_with fail
  refine (markBoolF U nu cu lo K1 _ (by omega) hb0 hb2 WU1.out).mono ?_
  rintro e w2 ⟨rfl, fr2⟩
  have hc0 : 0 ≤ K1 + (nu : Int) := by omega
  have hc1 : K1 + (nu : Int) ≤ 1099511627776 := by omega
  generalize K1 + (nu : Int) = K2 at *
  have NU : ¬ atB U w.heap.size := fun h => by have := HR.out _ (Or.inr (Or.inr (Or.inl h))); omega
  have hs2 := fr2.size
  have hk2 := fun o => (fr2.cell (b := w.heap.size) (by omega) NU o).trans (hk1 o)
  have OP2 := Lib.hid (OP1.out.fr fr2 (fun k hk h => HUR.out k h hk) (fun k hk h => HUX.out k h hk))
  have WL2 := Lib.hid (WL1.out.fr fr2 (fun k hk h => HUL.out k h hk))
  have F2 := Lib.hid (F1.out.trans (fr2.mono (T := atR ⟨A, B, U, R, L, n, m, nu, np, nl, c, d, cu, cp, cl⟩ xs) (fun k h => Or.inr (Or.inr (Or.inl h)))))
  clear WU1 OP1 WL1 F1 NU hk1 fr1 fr2
  go_wp2_with fail
  refine (markProfS_any R np cp lo K2 r.profs xs _ (by omega) hc0 hc1 OP2.out).mono ?_
  rintro e w3 ⟨⟨K, rfl, hK0, hK1⟩, fr3⟩
  have NX : ¬ atX xs np w.heap.size := fun h => by have := HR.out _ (Or.inr (Or.inr (Or.inr (Or.inl h)))); omega
  have hs3 := fr3.size
  have hk3 := fun o => (fr3.cell (b := w.heap.size) (by omega) NX o).trans (hk2 o)
  have WL3 := Lib.hid (WL2.out.fr fr3 (by
    rintro k hk ⟨i, x, hi, hx, ho⟩
    exact HAP.out i x hx k ho hk))
  have F3 := Lib.hid (F2.out.trans (fr3.mono (T := atR ⟨A, B, U, R, L, n, m, nu, np, nl, c, d, cu, cp, cl⟩ xs) (fun k h => Or.inr (Or.inr (Or.inr (Or.inl h))))))
  clear OP2 WL2 F2 NX hk2 fr3
  have hd1 : K ≤ 2305843009213693952 := by omega
  go_wp2_with fail
  refine (markProfG L nl cl lo K _ (by omega) hK0 hd1 WL3.out).mono ?_
  rintro e w4 ⟨rfl, fr4⟩
  have F4 := Lib.hid (F3.out.trans (fr4.mono (T := atR ⟨A, B, U, R, L, n, m, nu, np, nl, c, d, cu, cp, cl⟩ xs) (fun k h => Or.inr (Or.inr (Or.inr (Or.inr h))))))
  clear F3 WL3 fr4
  go_wp2
  go_ret
  exact ⟨⟨_, rfl, by omega⟩, F4.out⟩
end Go.Proofs.Ytpfcegjomdppmaa
