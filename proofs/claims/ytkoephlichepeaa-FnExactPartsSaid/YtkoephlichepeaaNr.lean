import Derived.Test.YtkoephlichepeaaNq
namespace Go.Proofs.Ytkoephlichepeaa
open Go.RowKit
def markB (k : Nat) : ByteArray := ⟨#[109]⟩ ++ numB k
set_option maxHeartbeats 400000 in
theorem markText_any (n : Nat) (h0 : 0 < n) (hn : n ≤ 1000000000) (w : World) :
    Calls Try.prog 49 #[.int .i64 n] w fun e w' => e = .returned (.string (markB n)) ∧ Below w.heap.size w w' := by
  have kc := conv_one
  have kl : ∀ c : Int, (strOfNums [c]).size = 1 := fun c => strOfNums_size _
  have h0' : 0 < (n : Int) := by omega
  have HN := Lib.hid hn
  clear hn
  go_enter Try.func49, Try.ntmps49
  go_wp2
  go_loopw [0, 3] (fun v s wr => ∃ (m : Nat) (b : ByteArray), m ≤ n ∧ v = .int .i64 m ∧ s = .string b ∧ (if m = 0 then b = numB n else ntxt n = ntxt m ++ b.data.toList) ∧ Below w.heap.size w wr) (fun v _ _ => (intOf v).toNat)
  case atStart => exact ⟨n, _, Nat.le_refl _, rfl, rfl, by rw [if_neg (by omega)]; simp, Below.refl _ _⟩
  case round =>
    obtain ⟨m, b, hm, rfl, rfl, he, hb⟩ := hrel
    have hbs : b.size ≤ 1000000001 := by
      have h2 := ntxt_len n
      have h3 := HN.out
      split at he
      · subst he
        have : (numB n).size = (ntxt n).length := by simp [numB, ByteArray.size]
        omega
      · have h1 := congrArg List.length he
        simp at h1
        omega
    have HE := Lib.hid he
    have hmx : m ≤ 1000000000 := Nat.le_trans hm HN.out
    clear he
    by_cases h9 : 0 < m
    · go_wp2
      refine ⟨⟨m / 10, strOfNums [48 + ↑m % 10] ++ b, by omega, by simp, rfl, ?_, hb.alloc hb.size _⟩, by simp [intOf]; omega⟩
      have he := HE.out
      rw [if_neg (by omega)] at he
      by_cases h10 : m < 10
      · rw [if_pos (by omega)]
        rw [ntxt_lo h10] at he
        apply Go.WideShapes.bytes_inj
        rw [append_list, nums_data, show ((48 : Int) + ↑m % 10).toNat = 48 + m from by omega]
        exact he.symm
      · rw [if_neg (by omega), he, append_list, nums_data, ntxt_hi h10]
        simp [show ((48 : Int) + ↑m % 10).toNat = 48 + m % 10 from by omega]
    · have he := HE.out
      rw [if_pos (by omega)] at he
      subst he
      have hq : ¬ 9223372036854775807 < 1 + (numB n).size := by omega
      have q5 : (⟨#[109]⟩ : ByteArray).size = 1 := rfl
      go_wp2
      go_ret
      exact ⟨rfl, hb⟩
/-- What a slice of strings holds once marked from k on. -/
def marks (k n : Nat) : List Value := (List.range n).map fun j => .string (markB (k + j))
theorem marks_get {k n j : Nat} (h : j < n) : (marks k n)[j]? = some (.string (markB (k + j))) := by simp [marks, h]
/-- The block under a slice: it may be written. -/
def Wr (w : World) (lo : Nat) (A : Option Addr) (n : Nat) (e : TypeId) : Prop := 0 < n → ∃ g cur, A = some ⟨g, 0, none⟩ ∧ lo ≤ g ∧ w.heap[g]? = some (.cells cur e (0, 0)) ∧ n ≤ cur.size

theorem own_wr {w : World} {lo : Nat} {e : TypeId} {v : Value} {n : Nat} {xs : List Value} (h : w.ownsRow lo e 1 v n xs) : ∃ A c, v = .slice A n c ∧ Wr w lo A n e := by
  rcases h with ⟨hl, ⟨rfl, rfl⟩ | ⟨g, cap, cur, rfl, hg, hh, h1, h2, h3, h4⟩⟩
  · exact ⟨none, 0, rfl, fun h => absurd h (by omega)⟩
  · exact ⟨_, _, rfl, fun _ => ⟨g, cur, rfl, hg, hh, by omega⟩⟩
set_option maxHeartbeats 1000000 in
theorem markStrS_any (A : Option Addr) (n c k0 lo : Nat) (w : World) (hn : n ≤ 1048577) (hk0 : 0 < k0) (hk1 : k0 ≤ 1000000) (hlo : lo ≤ w.heap.size) (hw : Wr w lo A n 9) :
    Calls Try.prog 39 #[.slice A n c, .int .i64 k0] w fun e w' => e = .returned (.int .i64 ((k0 + n : Nat) : Int)) ∧ Rd w' A n 1 (marks k0 n) ∧ Below lo w w' := by
  have hm : n ≤ 9223372036854775807 := by omega
  have hkm : (k0 : Int) + n ≤ 9223372036854775807 := by omega
  have HN := Lib.hid hn
  have HK := Lib.hid hk1
  have HW := Lib.hid hw
  clear hn hk1 hw
  go_enter Try.func39, Try.ntmps39
  go_wp2
  go_loopw [1, 5] (fun q i wr => ∃ k : Nat, k ≤ n ∧ i = .int .i64 k ∧ q = .int .i64 ((k0 + k : Nat) : Int) ∧ Below lo w wr ∧ (0 < n → ∃ g cur, A = some ⟨g, 0, none⟩ ∧ lo ≤ g ∧ g < wr.heap.size ∧ wr.heap[g]? = some (.cells cur 9 (0, 0)) ∧ n ≤ cur.size ∧ ∀ j, j < k → cur[j]? = some (.string (markB (k0 + j))))) (fun _ i _ => n - (intOf i).toNat)
  case atStart =>
    refine ⟨0, Nat.zero_le _, rfl, rfl, Below.refl _ _, fun h => ?_⟩
    obtain ⟨g, cur, hA, hg, hh, hs⟩ := HW.out h
    refine ⟨g, cur, hA, hg, ?_, hh, hs, fun j hj => absurd hj (by omega)⟩
    rcases Nat.lt_or_ge g w.heap.size with h | h
    · exact h
    · rw [Array.getElem?_eq_none h] at hh; cases hh
  case round =>
    obtain ⟨k, hk, rfl, rfl, hb, hcur⟩ := hrel
    by_cases hlt : k < n
    · obtain ⟨g, cur, rfl, hg, hgl, hh, hs, hm2⟩ := hcur (by omega)
      have HM := Lib.hid hm2
      have HH := Lib.hid hh
      clear hm2 hh hcur
      have hlt' : (k : Int) < n := by omega
      have hlt2 : (k0 : Int) + k + 1 ≤ 9223372036854775807 := by omega
      go_wp2_with fail
      rw [show ((k0 : Int) + (k : Int)) = ((k0 + k : Nat) : Int) from by simp]
      refine (markText_any (k0 + k) (by omega) (by have := HN.out; have := HK.out; omega) _).mono ?_
      rintro e w1 ⟨rfl, hb1⟩
      have hh1 : w1.heap[g]? = some (.cells cur 9 (0, 0)) := (hb1.block g hgl).trans HH.out
      have hcell : (w1.cell? ⟨g, k, none⟩).isSome = true := by
        simp only [World.cell?, hh1]
        simp
        omega
      have hfr : w1.frozen? ⟨g, k, none⟩ = false := by simp [World.frozen?, hh1]
      obtain ⟨old, hold⟩ := Option.isSome_iff_exists.1 hcell
      have HH1 := Lib.hid hh1
      clear hh1 hcell
      go_wp2
      go_roundw
      case rel =>
        refine ⟨k + 1, by omega, by go_num, by go_num, ?_, fun _ => ⟨g, cur.setIfInBounds k (.string (markB (k0 + k))), rfl, hg, ?_, ?_, by simpa using hs, ?_⟩⟩
        · exact (hb.trans (hb1.mono (Nat.le_trans hlo hb.size))).setCell hg _
        · simp [World.setCell]; have := hb1.size; omega
        · have := HH1.out
          simp [World.setCell, Array.getElem?_modify, this]
        · intro j hj
          rw [Array.getElem?_setIfInBounds]
          by_cases hjk : k = j
          · subst hjk; simp; omega
          · rw [if_neg hjk]; exact HM.out j (by omega)
      case measure => simp [intOf]; omega
    · obtain rfl : k = n := by omega
      go_wp2
      go_ret
      refine ⟨by simp, ⟨by simp [marks], fun h => ?_⟩, hb⟩
      obtain ⟨g, cur, hA, hg, hgl, hh, hs, hm2⟩ := hcur h
      refine ⟨g, hA, fun j u hj => ?_⟩
      have hjn : j < k := by
        have := (List.getElem?_eq_some_iff.1 hj).1
        simpa [marks] using this
      rw [marks_get hjn] at hj
      simp only [World.cell?, hh]
      simpa using (hm2 j hjn).trans hj
end Go.Proofs.Ytkoephlichepeaa
