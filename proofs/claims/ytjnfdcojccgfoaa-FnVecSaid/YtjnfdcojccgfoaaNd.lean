import Derived.Test.YtjnfdcojccgfoaaNc
namespace Go.Proofs.Ytjnfdcojccgfoaa
set_option linter.unusedSimpArgs false
set_option linter.unusedVariables false
set_option linter.unnecessarySimpa false
open Go.RowKit
def dig (c : UInt8) : Bool := decide (48 ≤ c.toNat) && decide (c.toNat ≤ 57)
def dval (l : List UInt8) : Nat := l.foldl (fun n c => 10 * n + (c.toNat - 48)) 0
def tnumOk (b : ByteArray) : Bool := decide (1 ≤ b.size) && decide (b.size ≤ 10) && b.data.toList.all dig && decide (txtB (dval b.data.toList) = b)
def tnumV (b : ByteArray) : Int := if tnumOk b then dval b.data.toList else 0
theorem dval_snoc (l : List UInt8) (c : UInt8) : dval (l ++ [c]) = 10 * dval l + (c.toNat - 48) := by simp [dval]
theorem dval_lt (l : List UInt8) (h : l.all dig = true) : dval l < 10 ^ l.length := by
  have key : ∀ (l : List UInt8) (a : Nat), l.all dig = true → l.foldl (fun n c => 10 * n + (c.toNat - 48)) a < (a + 1) * 10 ^ l.length := by
    intro l
    induction l with
    | nil => intro a _; simp
    | cons c l ih =>
      intro a h
      simp only [List.all_cons, Bool.and_eq_true] at h
      have h2 : 48 ≤ c.toNat ∧ c.toNat ≤ 57 := by simpa [dig] using h.1
      have h1 := ih (10 * a + (c.toNat - 48)) h.2
      simp only [List.foldl_cons, List.length_cons, Nat.pow_succ]
      refine Nat.lt_of_lt_of_le h1 ?_
      have : 10 * a + (c.toNat - 48) + 1 ≤ (a + 1) * 10 := by omega
      calc (10 * a + (c.toNat - 48) + 1) * 10 ^ l.length ≤ ((a + 1) * 10) * 10 ^ l.length := Nat.mul_le_mul_right _ this
        _ = (a + 1) * (10 ^ l.length * 10) := by rw [Nat.mul_assoc, Nat.mul_comm 10]
  have := key l 0 h
  simpa [dval] using this
theorem dval_bd (l : List UInt8) (h : l.all dig = true) (hl : l.length ≤ 10) : dval l < 10000000000 := by
  have h1 := dval_lt l h
  have h2 : 10 ^ l.length ≤ 10 ^ 10 := Nat.pow_le_pow_right (by omega) hl
  omega
theorem take_snoc (s : ByteArray) (k : Nat) (h : k < s.size) : s.data.toList.take (k + 1) = s.data.toList.take k ++ [s[k]] := by
  rw [List.take_succ_eq_append_getElem (by simpa using h)]; rfl
theorem not_all_of {s : ByteArray} {k : Nat} (hk : k < s.size) (h : dig s[k] = false) : s.data.toList.all dig = false := by
  rw [List.all_eq_false]
  refine ⟨s[k], ?_, by simpa using h⟩
  have : s.data.toList[k]'(by simpa using hk) = s[k] := rfl
  rw [← this]
  exact List.getElem_mem _
theorem str_ne {a b : ByteArray} (h : decide (a = b) = false) : (a.toList == b.toList) = false := by
  rw [decide_eq_false_iff_not] at h
  rw [beq_eq_false_iff_ne]
  intro e
  rw [Go.ByteArray.toList_eq, Go.ByteArray.toList_eq] at e
  exact h (Go.WideShapes.bytes_inj e)
theorem str_eq {a b : ByteArray} (h : decide (a = b) = true) : (a.toList == b.toList) = true := by
  rw [of_decide_eq_true h]
  simp
theorem ret_tn {x y : Int} {a b : Bool} (h : x = y) (h' : a = b) : Ending.returned (.tuple #[.int .i64 x, .bool a]) = .returned (.tuple #[.int .i64 y, .bool b]) := by rw [h, h']

set_option maxHeartbeats 1000000 in
theorem textNum_any (s : ByteArray) (w : World) (hs : s.size ≤ maxLen) :
    Calls Try.prog 122 #[.string s] w fun e w' => e = .returned (.tuple #[.int .i64 (tnumV s), .bool (tnumOk s)]) ∧ Below w.heap.size w w' := by
  unfold maxLen at hs
  by_cases hlen : 1 ≤ s.size ∧ s.size ≤ 10
  · have hin : inB s.size 1 10 = true := by simp [inB]; omega
    go_enter Try.func122, Try.ntmps122
    go_wp2_with (go_at_call 104; refine (within_any _ _ _ _).mono ?_; rintro e w' ⟨rfl, rfl⟩; rw [hin])
    obtain ⟨hl1, hl2⟩ := hlen
    go_loop [4, 5] (fun n i => ∃ k : Nat, k ≤ s.size ∧ i = .int .i64 k ∧ n = .int .i64 (dval (s.data.toList.take k)) ∧ (s.data.toList.take k).all dig = true) (fun _ i => s.size - (intOf i).toNat)
    case atStart => exact ⟨0, Nat.zero_le _, rfl, rfl, by simp⟩
    case round =>
      obtain ⟨k, hk, rfl, rfl, hall⟩ := hrel
      have hbd := dval_bd _ hall (by simp; omega)
      have HA := Lib.hid hall
      clear hall
      by_cases hlt : k < s.size
      · have hsn := dval_snoc (s.data.toList.take k) s[k]
        have hts := take_snoc s k hlt
        rw [← hts] at hsn
        have HS := Lib.hid hsn
        have HT := Lib.hid hts
        clear hsn hts
        generalize hd : dval (s.data.toList.take k) = d at *
        have HD := Lib.hid hd
        clear hd
        cases hg : dig s[k]
        · have hna := not_all_of hlt hg
          have hok : tnumOk s = false := by simp only [tnumOk, hna, Bool.and_false, Bool.false_and]
          have hv : tnumV s = 0 := by simp only [tnumV, hok, Bool.false_eq_true, if_false]
          have HV := Lib.hid hv
          have HO := Lib.hid hok
          have hgg : ¬ (48 ≤ (s[k].toNat : Int) ∧ (s[k].toNat : Int) ≤ 57) := by
            intro h
            have : dig s[k] = true := by simp [dig]; omega
            rw [this] at hg; cases hg
          clear hna hok hv hg
          by_cases h48 : 48 ≤ (s[k].toNat : Int)
          all_goals
            go_wp2
            go_ret2
            exact ⟨ret_tn HV.out.symm HO.out.symm, Below.refl _ _⟩
        · have hgg : 48 ≤ (s[k].toNat : Int) ∧ (s[k].toNat : Int) ≤ 57 := by
            simp [dig] at hg; omega
          obtain ⟨hg1, hg2⟩ := hgg
          have HG := Lib.hid hg
          clear hg
          go_wp2
          go_round
          case rel =>
            refine ⟨k + 1, by omega, by go_num, ?_, ?_⟩
            · rw [HS.out]
              congr 1
              omega
            · rw [HT.out, List.all_append, HA.out]
              simpa using HG.out
          case measure => simp [intOf]; omega
      · obtain rfl : k = s.size := by omega
        have htk : s.data.toList.take s.size = s.data.toList := List.take_of_length_le (by simp)
        rw [htk] at HA hbd ⊢
        generalize hd : dval s.data.toList = d at *
        have HD := Lib.hid hd
        clear hd htk
        go_wp2_with fail
        refine (numText_full _ _).mono ?_
        rintro e w1 ⟨rfl, hb1⟩
        cases hq : decide (txtB d = s)
        · have hok : tnumOk s = false := by simp only [tnumOk, HD.out, hq, Bool.and_false]
          have hv : tnumV s = 0 := by simp only [tnumV, hok, Bool.false_eq_true, if_false]
          have HV := Lib.hid hv
          have HO := Lib.hid hok
          clear hok hv
          have hq2 : ((txtB d).toList == s.toList) = false := str_ne hq
          go_wp2
          go_ret2
          exact ⟨ret_tn HV.out.symm HO.out.symm, hb1⟩
        · have hok : tnumOk s = true := by simp only [tnumOk, HD.out, hq, HA.out, hl1, hl2, decide_true, Bool.and_self]
          have hv : tnumV s = d := by simp only [tnumV, hok, if_true, HD.out]
          have HV := Lib.hid hv
          have HO := Lib.hid hok
          clear hok hv
          have hq2 : ((txtB d).toList == s.toList) = true := str_eq hq
          go_wp2
          go_ret2
          exact ⟨ret_tn HV.out.symm HO.out.symm, hb1⟩
  · have hok : tnumOk s = false := by
      unfold tnumOk
      by_cases h1 : 1 ≤ s.size
      · simp [show ¬ s.size ≤ 10 by omega]
      · simp [h1]
    have hv : tnumV s = 0 := by simp only [tnumV, hok, Bool.false_eq_true, if_false]
    rw [hok, hv]
    clear hok hv
    by_cases h1 : 1 ≤ s.size
    all_goals
      have hin : inB s.size 1 10 = false := by simp [inB]; omega
      go_enter Try.func122, Try.ntmps122
      go_wp2_with (go_at_call 104; refine (within_any _ _ _ _).mono ?_; rintro e w' ⟨rfl, rfl⟩; rw [hin])
      go_ret2
      exact ⟨rfl, Below.refl _ _⟩

set_option maxHeartbeats 1000000 in
theorem stextNum_any (s : ByteArray) (w : World) (hs : s.size ≤ maxLen) :
    Calls Try.prog 152 #[.string s] w fun e w' => e = .returned (.tuple #[.int .i64 (tnumV s), .bool (tnumOk s)]) ∧ Below w.heap.size w w' := by
  unfold maxLen at hs
  by_cases hlen : 1 ≤ s.size ∧ s.size ≤ 10
  · go_enter Try.func152, Try.ntmps152
    go_wp2
    obtain ⟨hl1, hl2⟩ := hlen
    go_loop [4, 5] (fun n i => ∃ k : Nat, k ≤ s.size ∧ i = .int .i64 k ∧ n = .int .i64 (dval (s.data.toList.take k)) ∧ (s.data.toList.take k).all dig = true) (fun _ i => s.size - (intOf i).toNat)
    case atStart => exact ⟨0, Nat.zero_le _, rfl, rfl, by simp⟩
    case round =>
      obtain ⟨k, hk, rfl, rfl, hall⟩ := hrel
      have hbd := dval_bd _ hall (by simp; omega)
      have HA := Lib.hid hall
      clear hall
      by_cases hlt : k < s.size
      · have hsn := dval_snoc (s.data.toList.take k) s[k]
        have hts := take_snoc s k hlt
        rw [← hts] at hsn
        have HS := Lib.hid hsn
        have HT := Lib.hid hts
        clear hsn hts
        generalize hd : dval (s.data.toList.take k) = d at *
        have HD := Lib.hid hd
        clear hd
        cases hg : dig s[k]
        · have hna := not_all_of hlt hg
          have hok : tnumOk s = false := by simp only [tnumOk, hna, Bool.and_false, Bool.false_and]
          have hv : tnumV s = 0 := by simp only [tnumV, hok, Bool.false_eq_true, if_false]
          have HV := Lib.hid hv
          have HO := Lib.hid hok
          have hgg : ¬ (48 ≤ (s[k].toNat : Int) ∧ (s[k].toNat : Int) ≤ 57) := by
            intro h
            have : dig s[k] = true := by simp [dig]; omega
            rw [this] at hg; cases hg
          clear hna hok hv hg
          by_cases h48 : 48 ≤ (s[k].toNat : Int)
          all_goals
            go_wp2
            go_ret2
            exact ⟨ret_tn HV.out.symm HO.out.symm, Below.refl _ _⟩
        · have hgg : 48 ≤ (s[k].toNat : Int) ∧ (s[k].toNat : Int) ≤ 57 := by
            simp [dig] at hg; omega
          obtain ⟨hg1, hg2⟩ := hgg
          have HG := Lib.hid hg
          clear hg
          go_wp2
          go_round
          case rel =>
            refine ⟨k + 1, by omega, by go_num, ?_, ?_⟩
            · rw [HS.out]
              congr 1
              omega
            · rw [HT.out, List.all_append, HA.out]
              simpa using HG.out
          case measure => simp [intOf]; omega
      · obtain rfl : k = s.size := by omega
        have htk : s.data.toList.take s.size = s.data.toList := List.take_of_length_le (by simp)
        rw [htk] at HA hbd ⊢
        generalize hd : dval s.data.toList = d at *
        have HD := Lib.hid hd
        clear hd htk
        go_wp2_with fail
        refine (sNumText_full _ _).mono ?_
        rintro e w1 ⟨rfl, hb1⟩
        cases hq : decide (txtB d = s)
        · have hok : tnumOk s = false := by simp only [tnumOk, HD.out, hq, Bool.and_false]
          have hv : tnumV s = 0 := by simp only [tnumV, hok, Bool.false_eq_true, if_false]
          have HV := Lib.hid hv
          have HO := Lib.hid hok
          clear hok hv
          have hq2 : ((txtB d).toList == s.toList) = false := str_ne hq
          go_wp2
          go_ret2
          exact ⟨ret_tn HV.out.symm HO.out.symm, hb1⟩
        · have hok : tnumOk s = true := by simp only [tnumOk, HD.out, hq, HA.out, hl1, hl2, decide_true, Bool.and_self]
          have hv : tnumV s = d := by simp only [tnumV, hok, if_true, HD.out]
          have HV := Lib.hid hv
          have HO := Lib.hid hok
          clear hok hv
          have hq2 : ((txtB d).toList == s.toList) = true := str_eq hq
          go_wp2
          go_ret2
          exact ⟨ret_tn HV.out.symm HO.out.symm, hb1⟩
  · have hok : tnumOk s = false := by
      unfold tnumOk
      by_cases h1 : 1 ≤ s.size
      · simp [show ¬ s.size ≤ 10 by omega]
      · simp [h1]
    have hv : tnumV s = 0 := by simp only [tnumV, hok, Bool.false_eq_true, if_false]
    rw [hok, hv]
    clear hok hv
    by_cases h1 : 1 ≤ s.size
    all_goals
      go_enter Try.func152, Try.ntmps152
      go_wp2
      go_ret2
      exact ⟨rfl, Below.refl _ _⟩
end Go.Proofs.Ytjnfdcojccgfoaa
