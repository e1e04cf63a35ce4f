/-
  Texts of this proof, put together.
-/
import Derived.Test.YtdppjjdhidkjoaaGreatA1
import Derived.Deep.RegionWith
import Derived.Deep.RegionHeld3
namespace Go.Proofs.YtdppjjdhidkjoaaGreat
set_option linter.unusedSimpArgs false
set_option linter.unusedVariables false
set_option linter.unnecessarySimpa false
open Go.RowKit
def txtB (n : Int) : ByteArray := if timeB n then numB n.toNat else ⟨#[]⟩
set_option maxHeartbeats 400000 in
theorem sTime_any (x : Int) (w : World) :
    Calls Tryz.prog 90 #[.int .i64 x] w fun e w' => e = .returned (.bool (timeB x)) ∧ w = w' := by
  by_cases h1 : 0 ≤ x
  · go_enter Tryz.func90, Tryz.ntmps90
    go_wp2
    go_ret
    exact ⟨ret_bool (by simp [timeB, inB, h1]), rfl⟩
  · go_enter Tryz.func90, Tryz.ntmps90
    go_wp2
    go_ret
    exact ⟨ret_bool (by simp [timeB, inB]; omega), rfl⟩
theorem numB_size (n : Nat) : (numB n).size ≤ n + 1 := by
  have := ntxt_len n
  simpa [numB, ByteArray.size] using this
theorem conv_at (w : World) (g : Nat) (c : Int) (h : w.cell? ⟨g, 0, none⟩ = some (.int .u8 c)) : (convert 22 9 (.slice (some ⟨g, 0, none⟩) 1 1)).run Tryz.prog w = .ok (.string (strOfNums [c])) w :=
  run_convert_bytes_arg _ _ _ Tryz.underlying22 Tryz.underlying5 _ 0 1 1 [c] rfl (fun i hi => by
    obtain rfl : i = 0 := by omega
    simpa using h) _ Tryz.underlying9
theorem ntxt_ten (k : Nat) : ∀ n, n < 10 ^ (k + 1) → (ntxt n).length ≤ k + 1 := by
  induction k with
  | zero => intro n h; rw [ntxt_lo (by omega)]; simp
  | succ k ih =>
    intro n h
    by_cases h9 : n < 10
    · rw [ntxt_lo h9]; simp
    · rw [ntxt_hi h9]
      have := ih (n / 10) (by rw [Nat.pow_succ] at h; omega)
      simp; omega
theorem txtB_size (n : Int) : (txtB n).size ≤ 10 := by
  unfold txtB
  split
  · rename_i h
    have h' : 0 ≤ n ∧ n ≤ 1000000000 := by simpa [timeB, inB] using h
    have := ntxt_ten 9 n.toNat (by omega)
    simpa [numB, ByteArray.size] using this
  · decide
end Go.Proofs.YtdppjjdhidkjoaaGreat

namespace Go.Proofs.YtdppjjdhidkjoaaGreat
set_option linter.unusedSimpArgs false
set_option linter.unusedVariables false
set_option linter.unnecessarySimpa false
open Go.RowKit
def slashB : ByteArray := ⟨#[47]⟩
def vtxtB (a b c : Int) : ByteArray := if vecOkB a b c then txtB a ++ slashB ++ txtB b ++ slashB ++ txtB c else ⟨#[]⟩

end Go.Proofs.YtdppjjdhidkjoaaGreat

namespace Go.Proofs.YtdppjjdhidkjoaaGreat
set_option linter.unusedSimpArgs false
set_option linter.unusedVariables false
set_option linter.unnecessarySimpa false
open Go.RowKit
def dig (c : UInt8) : Bool := decide (48 ≤ c.toNat) && decide (c.toNat ≤ 57)
def dval (l : List UInt8) : Nat := l.foldl (fun n c => 10 * n + (c.toNat - 48)) 0
def tnumOk (b : ByteArray) : Bool := decide (1 ≤ b.size) && decide (b.size ≤ 10) && b.data.toList.all dig && decide (txtB (dval b.data.toList) = b)
def tnumV (b : ByteArray) : Int := if tnumOk b then dval b.data.toList else 0
theorem dval_snoc (l : List UInt8) (c : UInt8) : dval (l ++ [c]) = 10 * dval l + (c.toNat - 48) := by simp [dval]
theorem dval_lt (l : List UInt8) (h : l.all dig = true) : dval l < 10 ^ l.length := by
  have key : ∀ (l : List UInt8) (a : Nat), l.all dig = true → l.foldl (fun n c => 10 * n + (c.toNat - 48)) a < (a + 1) * 10 ^ l.length := by
    intro l
    induction l with
    | nil => intro a _; simp
    | cons c l ih =>
      intro a h
      simp only [List.all_cons, Bool.and_eq_true] at h
      have h2 : 48 ≤ c.toNat ∧ c.toNat ≤ 57 := by simpa [dig] using h.1
      have h1 := ih (10 * a + (c.toNat - 48)) h.2
      simp only [List.foldl_cons, List.length_cons, Nat.pow_succ]
      refine Nat.lt_of_lt_of_le h1 ?_
      have : 10 * a + (c.toNat - 48) + 1 ≤ (a + 1) * 10 := by omega
      calc (10 * a + (c.toNat - 48) + 1) * 10 ^ l.length ≤ ((a + 1) * 10) * 10 ^ l.length := Nat.mul_le_mul_right _ this
        _ = (a + 1) * (10 ^ l.length * 10) := by rw [Nat.mul_assoc, Nat.mul_comm 10]
  have := key l 0 h
  simpa [dval] using this
theorem dval_bd (l : List UInt8) (h : l.all dig = true) (hl : l.length ≤ 10) : dval l < 10000000000 := by
  have h1 := dval_lt l h
  have h2 : 10 ^ l.length ≤ 10 ^ 10 := Nat.pow_le_pow_right (by omega) hl
  omega
theorem take_snoc (s : ByteArray) (k : Nat) (h : k < s.size) : s.data.toList.take (k + 1) = s.data.toList.take k ++ [s[k]] := by
  rw [List.take_succ_eq_append_getElem (by simpa using h)]; rfl
theorem not_all_of {s : ByteArray} {k : Nat} (hk : k < s.size) (h : dig s[k] = false) : s.data.toList.all dig = false := by
  rw [List.all_eq_false]
  refine ⟨s[k], ?_, by simpa using h⟩
  have : s.data.toList[k]'(by simpa using hk) = s[k] := rfl
  rw [← this]
  exact List.getElem_mem _
theorem str_ne {a b : ByteArray} (h : decide (a = b) = false) : (a.toList == b.toList) = false := by
  rw [decide_eq_false_iff_not] at h
  rw [beq_eq_false_iff_ne]
  intro e
  rw [Go.ByteArray.toList_eq, Go.ByteArray.toList_eq] at e
  exact h (Go.WideShapes.bytes_inj e)
theorem str_eq {a b : ByteArray} (h : decide (a = b) = true) : (a.toList == b.toList) = true := by
  rw [of_decide_eq_true h]
  simp
theorem ret_tn {x y : Int} {a b : Bool} (h : x = y) (h' : a = b) : Ending.returned (.tuple #[.int .i64 x, .bool a]) = .returned (.tuple #[.int .i64 y, .bool b]) := by rw [h, h']

end Go.Proofs.YtdppjjdhidkjoaaGreat

namespace Go.Proofs.YtdppjjdhidkjoaaGreat
set_option linter.unusedSimpArgs false
set_option linter.unusedVariables false
set_option linter.unnecessarySimpa false
open Go.RowKit
/-- The pieces that are complete behind k bytes, and where the next one begins. -/
def pieces (s : ByteArray) (b : UInt8) : Nat → List ByteArray × Nat
  | 0 => ([], 0)
  | k + 1 => if (s.data.toList.getD k 0) = b then ((pieces s b k).1 ++ [s.extract (pieces s b k).2 k], k + 1) else pieces s b k
def parts (s : ByteArray) (b : UInt8) : List ByteArray := (pieces s b s.size).1 ++ [s.extract (pieces s b s.size).2 s.size]
theorem pieces_le (s : ByteArray) (b : UInt8) (k : Nat) : (pieces s b k).1.length ≤ k ∧ (pieces s b k).2 ≤ k := by
  induction k with
  | zero => simp [pieces]
  | succ k ih =>
    unfold pieces
    split
    · simp; exact ih.1
    · omega
theorem infoS : (Tryz.prog.info? 9).map (fun i => (i.zero, i.size, i.bytes)) = some (some (.string ⟨#[]⟩), 1, 16) := by kernel_rfl
theorem getD_byte (s : ByteArray) (k : Nat) (h : k < s.size) : s.data.toList.getD k 0 = s[k] := by
  have : k < s.data.toList.length := by simpa using h
  rw [List.getD_eq_getElem?_getD, List.getElem?_eq_getElem this]
  rfl
theorem own_empty (w : World) (e : TypeId) : (w.alloc (.cells #[] e)).ownsRow w.heap.size e 1 (.slice (some ⟨w.heap.size, 0, none⟩) 0 0) 0 [] :=
  ⟨rfl, Or.inr ⟨w.heap.size, 0, #[], rfl, Nat.le_refl _, heap_alloc_new w _, Nat.le_refl _, by simp, rfl, rfl⟩⟩
theorem own_ge {w : World} {base : Nat} {e : TypeId} {size n : Nat} {v : Value} {xs : List Value} (h : w.ownsRow base e size v n xs) : ∀ k, v.ownBlock = some k → base ≤ k := by
  intro k hk
  rcases h.2 with ⟨rfl, _⟩ | ⟨g, cap, cur, rfl, hg, _⟩
  · simp [Value.ownBlock] at hk
  · simp [Value.ownBlock] at hk; omega
def SlOwn (w : World) (B : Nat) (e : TypeId) (v : Value) (xs : List Value) : Prop := w.ownsRow B e 1 v xs.length xs

end Go.Proofs.YtdppjjdhidkjoaaGreat

namespace Go.Proofs.YtdppjjdhidkjoaaGreat
set_option linter.unusedSimpArgs false
set_option linter.unusedVariables false
set_option linter.unnecessarySimpa false
open Go.RowKit
/-- A slice that begins at a block's head and holds the cells xs. -/
def Rd (w : World) (A : Option Addr) (n size : Nat) (xs : List Value) : Prop :=
  xs.length = n * size ∧ (0 < n → ∃ g, A = some ⟨g, 0, none⟩ ∧ ∀ (j : Nat) u, xs[j]? = some u → w.cell? ⟨g, j, none⟩ = some u)
theorem Rd.at_ {w : World} {A : Option Addr} {n : Nat} {xs : List Value} (h : Rd w A n 1 xs) {k : Nat} (hk : k < n) : ∃ g u, A = some ⟨g, 0, none⟩ ∧ xs[k]? = some u ∧ w.cell? ⟨g, k, none⟩ = some u := by
  obtain ⟨g, rfl, hc⟩ := h.2 (by omega)
  have hl : k < xs.length := by have := h.1; omega
  exact ⟨g, xs[k], rfl, List.getElem?_eq_getElem hl, hc k _ (List.getElem?_eq_getElem hl)⟩
theorem Rd.drewN {w : World} {A : Option Addr} {n size : Nat} {xs : List Value} (h : Rd w A n size xs) (k : Nat) : Rd (w.drewN k) A n size xs := h
theorem own_rd {w : World} {lo : Nat} {e : TypeId} {size : Nat} {v : Value} {n : Nat} {xs : List Value} (h : w.ownsRow lo e size v n xs) : ∃ A c, v = .slice A n c ∧ Rd w A n size xs := by
  rcases h with ⟨hl, ⟨rfl, rfl⟩ | ⟨g, cap, cur, rfl, hg, hh, h1, h2, h3, h4⟩⟩
  · exact ⟨none, 0, rfl, hl, fun h => absurd h (by omega)⟩
  · refine ⟨_, _, rfl, hl, fun _ => ⟨g, rfl, fun j u hj => ?_⟩⟩
    rw [← h4, List.getElem?_take] at hj
    split at hj
    · simp only [World.cell?, hh]
      simpa using hj
    · cases hj
theorem own_lt {w : World} {lo : Nat} {e : TypeId} {size : Nat} {v : Value} {n : Nat} {xs : List Value} (h : w.ownsRow lo e size v n xs) : ∀ k, v.ownBlock = some k → k < w.heap.size := by
  intro k hk
  rcases h.2 with ⟨rfl, _⟩ | ⟨g, cap, cur, rfl, hg, hh, _⟩
  · simp [Value.ownBlock] at hk
  · simp [Value.ownBlock] at hk
    subst hk
    rcases Nat.lt_or_ge g w.heap.size with h | h
    · exact h
    · rw [Array.getElem?_eq_none h] at hh; cases hh
theorem own_below {w w' : World} {lo B : Nat} {e : TypeId} {size : Nat} {v : Value} {n : Nat} {xs : List Value} (h : w.ownsRow lo e size v n xs) (hb : Below B w w') (hlt : ∀ k, v.ownBlock = some k → k < B) : w'.ownsRow lo e size v n xs := by
  rcases h with ⟨hl, ⟨rfl, rfl⟩ | ⟨g, cap, cur, rfl, hg, hh, h1⟩⟩
  · exact ⟨hl, Or.inl ⟨rfl, rfl⟩⟩
  · exact ⟨hl, Or.inr ⟨g, cap, cur, rfl, hg, (hb.block g (hlt g rfl)).trans hh, h1⟩⟩
theorem below_drewN {B : Nat} (w : World) (k : Nat) : Below B w (w.drewN k) := ⟨rfl, rfl, rfl, Nat.le_refl _, fun _ _ => rfl⟩


set_option maxHeartbeats 1000000 in
theorem eqIntS_any (A A' : Option Addr) (n c c' : Nat) (bs : List Int) (w : World) (hn : n ≤ 1048577) (ha : Rd w A n 1 (bs.map (Value.int .i64))) (hb : Rd w A' n 1 (bs.map (Value.int .i64))) :
    Calls Tryz.prog 41 #[.slice A n c, .slice A' n c'] w fun e w' => e = .returned (.bool true) ∧ ∃ k, w' = w.drewN k := by
  have hm : n ≤ 9223372036854775807 := by omega
  clear hn
  have HA := Lib.hid ha
  have HB := Lib.hid hb
  clear ha hb
  go_enter Tryz.func41, Tryz.ntmps41
  go_wp2
  go_loopw [5] (fun i wr => ∃ k q : Nat, k ≤ n ∧ i = .int .i64 k ∧ wr = w.drewN q) (fun i _ => n - (intOf i).toNat)
  case atStart => exact ⟨0, 0, Nat.zero_le _, rfl, rfl⟩
  case round =>
    obtain ⟨k, q, hk, rfl, rfl⟩ := hrel
    by_cases hlt : k < n
    · obtain ⟨g, u, rfl, hu, hc⟩ := HA.out.at_ hlt
      obtain ⟨g', u', rfl, hu', hc'⟩ := HB.out.at_ hlt
      obtain rfl : u = u' := by rw [hu] at hu'; exact Option.some.inj hu'
      obtain ⟨x, rfl⟩ : ∃ x, u = Value.int .i64 x := by
        rw [List.getElem?_map] at hu
        cases hz : bs[k]? with
        | none => rw [hz] at hu; cases hu
        | some x => rw [hz] at hu; exact ⟨x, (Option.some.inj hu).symm⟩
      clear hu hu' HA HB
      have hlt' : (k : Int) < n := by omega
      go_wp2
      go_quiet (fail)
      go_wp2
      go_roundw
      case rel => exact ⟨k + 1, _, by omega, by go_num, rfl⟩
      case measure => simp [intOf]; omega
    · go_wp2
      go_ret
      exact ⟨rfl, q, rfl⟩

set_option maxHeartbeats 1000000 in
theorem eqBoolS_any (A A' : Option Addr) (n c c' : Nat) (bs : List Bool) (w : World) (hn : n ≤ 1048577) (ha : Rd w A n 1 (bs.map Value.bool)) (hb : Rd w A' n 1 (bs.map Value.bool)) :
    Calls Tryz.prog 126 #[.slice A n c, .slice A' n c'] w fun e w' => e = .returned (.bool true) ∧ ∃ k, w' = w.drewN k := by
  have hm : n ≤ 9223372036854775807 := by omega
  clear hn
  have HA := Lib.hid ha
  have HB := Lib.hid hb
  clear ha hb
  go_enter Tryz.func126, Tryz.ntmps126
  go_wp2
  go_loopw [5] (fun i wr => ∃ k q : Nat, k ≤ n ∧ i = .int .i64 k ∧ wr = w.drewN q) (fun i _ => n - (intOf i).toNat)
  case atStart => exact ⟨0, 0, Nat.zero_le _, rfl, rfl⟩
  case round =>
    obtain ⟨k, q, hk, rfl, rfl⟩ := hrel
    by_cases hlt : k < n
    · obtain ⟨g, u, rfl, hu, hc⟩ := HA.out.at_ hlt
      obtain ⟨g', u', rfl, hu', hc'⟩ := HB.out.at_ hlt
      obtain rfl : u = u' := by rw [hu] at hu'; exact Option.some.inj hu'
      obtain ⟨x, rfl⟩ : ∃ x, u = Value.bool x := by
        rw [List.getElem?_map] at hu
        cases hz : bs[k]? with
        | none => rw [hz] at hu; cases hu
        | some x => rw [hz] at hu; exact ⟨x, (Option.some.inj hu).symm⟩
      clear hu hu' HA HB
      have hlt' : (k : Int) < n := by omega
      go_wp2
      go_quiet (fail)
      go_wp2
      go_roundw
      case rel => exact ⟨k + 1, _, by omega, by go_num, rfl⟩
      case measure => simp [intOf]; omega
    · go_wp2
      go_ret
      exact ⟨rfl, q, rfl⟩
end Go.Proofs.YtdppjjdhidkjoaaGreat
