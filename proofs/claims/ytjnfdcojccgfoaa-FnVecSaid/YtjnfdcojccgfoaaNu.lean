import Derived.Test.YtjnfdcojccgfoaaNt
namespace Go.Proofs.Ytjnfdcojccgfoaa
set_option linter.unusedSimpArgs false
set_option linter.unusedVariables false
set_option linter.unnecessarySimpa false
open Go.RowKit
theorem of48 {d : Nat} (h : d < 10) : (UInt8.ofNat (48 + d)).toNat = 48 + d := by
  simp; omega
theorem dval_ntxt (n : Nat) : dval (ntxt n) = n := by
  induction n using Nat.strongRecOn with
  | _ n ih =>
    by_cases h : n < 10
    · rw [ntxt_lo h]
      simp only [dval, List.foldl_cons, List.foldl_nil, of48 h]; omega
    · rw [ntxt_hi h, dval_snoc, ih (n / 10) (by omega), of48 (by omega)]
      omega
theorem dig_ntxt (n : Nat) : (ntxt n).all dig = true := by
  induction n using Nat.strongRecOn with
  | _ n ih =>
    by_cases h : n < 10
    · rw [ntxt_lo h]
      simp only [List.all_cons, List.all_nil, dig, of48 h]; simp; omega
    · rw [ntxt_hi h, List.all_append, ih (n / 10) (by omega)]
      simp only [List.all_cons, List.all_nil, dig, of48 (show n % 10 < 10 by omega)]; simp; omega
theorem ntxt_pos (n : Nat) : 1 ≤ (ntxt n).length := by
  by_cases h : n < 10
  · rw [ntxt_lo h]; simp
  · rw [ntxt_hi h]; simp
theorem no47 (n : Nat) : (47 : UInt8) ∉ ntxt n := by
  intro h
  have := List.all_eq_true.1 (dig_ntxt n) 47 h
  revert this
  decide
theorem txtB_in {n : Int} (h0 : 0 ≤ n) (h1 : n ≤ 1000000000) : txtB n = numB n.toNat := by
  simp [txtB, timeB, inB, h0, h1]
theorem tnum_txt {n : Int} (h0 : 0 ≤ n) (h1 : n ≤ 1000000000) : tnumOk (txtB n) = true ∧ tnumV (txtB n) = n := by
  have e := txtB_in h0 h1
  have hd : dval (txtB n).data.toList = n.toNat := by rw [e]; exact dval_ntxt _
  have hok : tnumOk (txtB n) = true := by
    unfold tnumOk
    have hs : (txtB n).size ≤ 10 := txtB_size n
    have hp : 1 ≤ (txtB n).size := by rw [e]; have := ntxt_pos n.toNat; simpa [numB, ByteArray.size] using this
    have hg : (txtB n).data.toList.all dig = true := by rw [e]; exact dig_ntxt _
    rw [hg, hd, show ((n.toNat : Nat) : Int) = n from by omega]
    simp [hs, hp]
  exact ⟨hok, by rw [tnumV, if_pos hok, hd]; omega⟩
theorem tnum_eq {p : ByteArray} (h : tnumOk p = true) : txtB (tnumV p) = p := by
  have h' := h
  simp only [tnumOk, Bool.and_eq_true, decide_eq_true_eq] at h
  rw [tnumV, if_pos h']
  exact h.2
def tvAt (s : ByteArray) (i : Nat) : Int := match (parts s 47)[i]? with
  | some p => tnumV p
  | none => 0
def tvA (s : ByteArray) : Int := tvAt s 0
def tvB (s : ByteArray) : Int := tvAt s 1
def tvC (s : ByteArray) : Int := tvAt s 2
def tvIs (s : ByteArray) : Bool := decide (vtxtB (tvA s) (tvB s) (tvC s) = s)
theorem vecOk_le {a b c : Int} (h : vecOkB a b c = true) : (0 ≤ a ∧ a ≤ 1000000) ∧ (0 ≤ b ∧ b ≤ 1000000) ∧ (0 ≤ c ∧ c ≤ 1000000) := by
  simp [vecOkB, resB, inB] at h; omega
theorem vtxt_list {a b c : Int} (h : vecOkB a b c = true) : (vtxtB a b c).data.toList = ntxt a.toNat ++ 47 :: (ntxt b.toNat ++ 47 :: ntxt c.toNat) := by
  obtain ⟨⟨a0, a1⟩, ⟨b0, b1⟩, ⟨c0, c1⟩⟩ := vecOk_le h
  rw [vtxtB, if_pos h, append_list, append_list, append_list, append_list, txtB_in a0 (by omega), txtB_in b0 (by omega), txtB_in c0 (by omega)]
  show ntxt a.toNat ++ [47] ++ ntxt b.toNat ++ [47] ++ ntxt c.toNat = _
  simp
theorem parts_of_list {s : ByteArray} {ls : List (List UInt8)} (h : splitL 47 s.data.toList = ls) : parts s 47 = ls.map fun l => ⟨l.toArray⟩ := by
  rw [← h, ← parts_split, List.map_map]
  have e : ((fun l : List UInt8 => (⟨l.toArray⟩ : ByteArray)) ∘ fun p : ByteArray => p.data.toList) = id := by
    funext p
    cases p
    simp
  rw [e, List.map_id]
theorem tv_yes {s : ByteArray} (h : tvIs s = true) : vecOkB (tvA s) (tvB s) (tvC s) = true ∧ parts s 47 = [txtB (tvA s), txtB (tvB s), txtB (tvC s)] := by
  have h' : vtxtB (tvA s) (tvB s) (tvC s) = s := of_decide_eq_true h
  cases hv : vecOkB (tvA s) (tvB s) (tvC s) with
  | true =>
    refine ⟨rfl, ?_⟩
    have hl := vtxt_list hv
    rw [h'] at hl
    have hs : splitL 47 s.data.toList = [ntxt (tvA s).toNat, ntxt (tvB s).toNat, ntxt (tvC s).toNat] := by
      rw [hl, splitL_cat _ _ _ (no47 _), splitL_cat _ _ _ (no47 _), splitL_none _ _ (no47 _)]
    obtain ⟨⟨a0, a1⟩, ⟨b0, b1⟩, ⟨c0, c1⟩⟩ := vecOk_le hv
    rw [parts_of_list hs, txtB_in a0 (by omega), txtB_in b0 (by omega), txtB_in c0 (by omega)]
    rfl
  | false =>
    exfalso
    rw [vtxtB, hv] at h'
    simp at h'
    have hp : parts s 47 = [⟨#[]⟩] := by rw [← h']; rfl
    have h0 : tnumV ⟨#[]⟩ = 0 := by rfl
    have e0 : tvA s = 0 := by simp [tvA, tvAt, hp, h0]
    have e1 : tvB s = 0 := by simp [tvB, tvAt, hp]
    have e2 : tvC s = 0 := by simp [tvC, tvAt, hp]
    rw [e0, e1, e2] at hv
    revert hv
    decide
theorem tv_three {s p0 p1 p2 : ByteArray} (hp : parts s 47 = [p0, p1, p2]) : tvIs s = (tnumOk p0 && tnumOk p1 && tnumOk p2 && vecOkB (tnumV p0) (tnumV p1) (tnumV p2)) := by
  have e0 : tvA s = tnumV p0 := by simp [tvA, tvAt, hp]
  have e1 : tvB s = tnumV p1 := by simp [tvB, tvAt, hp]
  have e2 : tvC s = tnumV p2 := by simp [tvC, tvAt, hp]
  cases hx : (tnumOk p0 && tnumOk p1 && tnumOk p2 && vecOkB (tnumV p0) (tnumV p1) (tnumV p2)) with
  | true =>
    simp only [Bool.and_eq_true] at hx
    obtain ⟨⟨⟨h0, h1⟩, h2⟩, hv⟩ := hx
    refine decide_eq_true ?_
    apply Go.WideShapes.bytes_inj
    rw [e0, e1, e2, vtxtB, if_pos hv, tnum_eq h0, tnum_eq h1, tnum_eq h2]
    have hj := join_splitL 47 s.data.toList
    rw [← parts_split, hp] at hj
    simp [joinL] at hj
    rw [append_list, append_list, append_list, append_list, ← hj]
    show _ ++ [47] ++ _ ++ [47] ++ _ = _
    simp
  | false =>
    cases hy : tvIs s with
    | false => rfl
    | true =>
      exfalso
      obtain ⟨hv, hq⟩ := tv_yes hy
      rw [hp] at hq
      simp only [List.cons.injEq, and_true] at hq
      obtain ⟨q0, q1, q2⟩ := hq
      obtain ⟨⟨a0, a1⟩, ⟨b0, b1⟩, ⟨c0, c1⟩⟩ := vecOk_le hv
      have k0 := (tnum_txt a0 (by omega)).1
      have k1 := (tnum_txt b0 (by omega)).1
      have k2 := (tnum_txt c0 (by omega)).1
      rw [← q0] at k0
      rw [← q1] at k1
      rw [← q2] at k2
      rw [e0, e1, e2] at hv
      rw [k0, k1, k2, hv] at hx
      cases hx
theorem tv_other {s : ByteArray} (h : (parts s 47).length ≠ 3) : tvIs s = false := by
  cases hy : tvIs s with
  | false => rfl
  | true => exact absurd (by rw [(tv_yes hy).2]; rfl) h
end Go.Proofs.Ytjnfdcojccgfoaa
