/-
  Texts of this proof, put together.
-/
import Derived.Test.YtjnfdcojccgfoaaA2
import Derived.Lib.Strings
import Derived.Deep.Light
import Derived.Deep.DeepCutAuto
namespace Go.Proofs.Ytjnfdcojccgfoaa
set_option linter.unusedSimpArgs false
set_option linter.unusedVariables false
set_option linter.unnecessarySimpa false
open Go.RowKit
/-- The pieces of a list between the bytes b. -/
def splitL (b : UInt8) : List UInt8 → List (List UInt8)
  | [] => [[]]
  | c :: l => if c = b then [] :: splitL b l else match splitL b l with
    | [] => [[c]]
    | p :: ps => (c :: p) :: ps
theorem splitL_snoc_eq (b : UInt8) (l : List UInt8) : splitL b (l ++ [b]) = splitL b l ++ [[]] := by
  induction l with
  | nil => simp [splitL]
  | cons c l ih =>
    simp only [List.cons_append, splitL, ih]
    split
    · simp
    · cases h : splitL b l with
      | nil => simp [h] at ih ⊢; cases l <;> simp [splitL] at h; split at h <;> (try simp at h); split at h <;> simp at h
      | cons p ps => simp
theorem splitL_ne_nil (b : UInt8) (l : List UInt8) : splitL b l ≠ [] := by
  cases l with
  | nil => simp [splitL]
  | cons c l => simp only [splitL]; split <;> (try split) <;> simp
theorem splitL_snoc_ne (b c : UInt8) (hc : c ≠ b) (l : List UInt8) : ∀ i x, splitL b l = i ++ [x] → splitL b (l ++ [c]) = i ++ [x ++ [c]] := by
  induction l with
  | nil =>
    intro i x h
    cases i with
    | nil => simp [splitL] at h; subst h; simp [splitL, hc]
    | cons y i => simp [splitL] at h
  | cons d l ih =>
    intro i x h
    simp only [splitL] at h
    simp only [List.cons_append, splitL]
    split
    · rename_i hd
      rw [if_pos hd] at h
      cases i with
      | nil => simp at h; exact absurd h.2 (splitL_ne_nil b l)
      | cons y i =>
        simp at h
        rw [ih i x h.2]
        simp [h.1]
    · rename_i hd
      rw [if_neg hd] at h
      cases hs : splitL b l with
      | nil => exact absurd hs (splitL_ne_nil b l)
      | cons p ps =>
        rw [hs] at h
        dsimp only at h
        cases i with
        | nil =>
          simp at h
          obtain ⟨h1, h2⟩ := h
          subst h2
          rw [ih [] p (by simp [hs])]
          simp [← h1]
        | cons y i =>
          simp at h
          rw [ih (p :: i) x (by simp [hs, h.2])]
          simp [h.1]
def joinL (b : UInt8) : List (List UInt8) → List UInt8
  | [] => []
  | [x] => x
  | x :: y :: r => x ++ b :: joinL b (y :: r)
theorem join_splitL (b : UInt8) (l : List UInt8) : joinL b (splitL b l) = l := by
  induction l with
  | nil => simp [splitL, joinL]
  | cons c l ih =>
    simp only [splitL]
    cases hs : splitL b l with
    | nil => exact absurd hs (splitL_ne_nil b l)
    | cons p ps =>
      rw [hs] at ih
      split
      · rename_i hc
        simp [joinL, ih, hc]
      · cases ps with
        | nil => simp [joinL] at ih ⊢; exact ih
        | cons q r => simp [joinL] at ih ⊢; exact ih
theorem splitL_none (b : UInt8) (l : List UInt8) (h : b ∉ l) : splitL b l = [l] := by
  induction l with
  | nil => rfl
  | cons c l ih =>
    simp at h
    simp only [splitL, ih h.2]
    rw [if_neg (fun e => h.1 e.symm)]
theorem splitL_cat (b : UInt8) (l r : List UInt8) (h : b ∉ l) : splitL b (l ++ b :: r) = l :: splitL b r := by
  induction l with
  | nil => simp [splitL]
  | cons c l ih =>
    simp at h
    simp only [List.cons_append, splitL, ih h.2]
    rw [if_neg (fun e => h.1 e.symm)]
/-- The pieces behind k bytes are the split of the first k bytes. -/
theorem pieces_split (s : ByteArray) (b : UInt8) (k : Nat) (hk : k ≤ s.size) :
    splitL b (s.data.toList.take k) = (pieces s b k).1.map (fun p => p.data.toList) ++ [(s.data.toList.take k).drop (pieces s b k).2] ∧ (pieces s b k).2 ≤ k := by
  induction k with
  | zero => simp [pieces, splitL]
  | succ k ih =>
    obtain ⟨h1, h2⟩ := ih (by omega)
    have hlt : k < s.size := by omega
    have ht := take_snoc s k hlt
    have hlen : (s.data.toList.take k).length = k := by simp; omega
    unfold pieces
    rw [getD_byte s k hlt]
    split
    · rename_i hc
      refine ⟨?_, Nat.le_refl _⟩
      rw [ht, hc, splitL_snoc_eq, h1]
      simp only [List.map_append, List.map_cons, List.map_nil]
      congr 1
      · congr 2
        rw [Lib.extract_data, List.drop_take]
      · simp [hlen]
    · rename_i hc
      refine ⟨?_, by omega⟩
      rw [ht, splitL_snoc_ne b s[k] hc _ _ _ h1]
      congr 2
      rw [List.drop_append_of_le_length (by omega)]
theorem parts_split (s : ByteArray) (b : UInt8) : (parts s b).map (fun p => p.data.toList) = splitL b s.data.toList := by
  have h := (pieces_split s b s.size (Nat.le_refl _)).1
  have ht : s.data.toList.take s.size = s.data.toList := List.take_of_length_le (by simp)
  rw [ht] at h
  rw [h, parts]
  simp only [List.map_append, List.map_cons, List.map_nil]
  congr 2
  rw [Lib.extract_data, ← List.drop_take, ht]
end Go.Proofs.Ytjnfdcojccgfoaa

namespace Go.Proofs.Ytjnfdcojccgfoaa
set_option linter.unusedSimpArgs false
set_option linter.unusedVariables false
set_option linter.unnecessarySimpa false
open Go.RowKit
theorem of48 {d : Nat} (h : d < 10) : (UInt8.ofNat (48 + d)).toNat = 48 + d := by
  simp; omega
theorem dval_ntxt (n : Nat) : dval (ntxt n) = n := by
  induction n using Nat.strongRecOn with
  | _ n ih =>
    by_cases h : n < 10
    · rw [ntxt_lo h]
      simp only [dval, List.foldl_cons, List.foldl_nil, of48 h]; omega
    · rw [ntxt_hi h, dval_snoc, ih (n / 10) (by omega), of48 (by omega)]
      omega
theorem dig_ntxt (n : Nat) : (ntxt n).all dig = true := by
  induction n using Nat.strongRecOn with
  | _ n ih =>
    by_cases h : n < 10
    · rw [ntxt_lo h]
      simp only [List.all_cons, List.all_nil, dig, of48 h]; simp; omega
    · rw [ntxt_hi h, List.all_append, ih (n / 10) (by omega)]
      simp only [List.all_cons, List.all_nil, dig, of48 (show n % 10 < 10 by omega)]; simp; omega
theorem ntxt_pos (n : Nat) : 1 ≤ (ntxt n).length := by
  by_cases h : n < 10
  · rw [ntxt_lo h]; simp
  · rw [ntxt_hi h]; simp
theorem no47 (n : Nat) : (47 : UInt8) ∉ ntxt n := by
  intro h
  have := List.all_eq_true.1 (dig_ntxt n) 47 h
  revert this
  decide
theorem txtB_in {n : Int} (h0 : 0 ≤ n) (h1 : n ≤ 1000000000) : txtB n = numB n.toNat := by
  simp [txtB, timeB, inB, h0, h1]
theorem tnum_txt {n : Int} (h0 : 0 ≤ n) (h1 : n ≤ 1000000000) : tnumOk (txtB n) = true ∧ tnumV (txtB n) = n := by
  have e := txtB_in h0 h1
  have hd : dval (txtB n).data.toList = n.toNat := by rw [e]; exact dval_ntxt _
  have hok : tnumOk (txtB n) = true := by
    unfold tnumOk
    have hs : (txtB n).size ≤ 10 := txtB_size n
    have hp : 1 ≤ (txtB n).size := by rw [e]; have := ntxt_pos n.toNat; simpa [numB, ByteArray.size] using this
    have hg : (txtB n).data.toList.all dig = true := by rw [e]; exact dig_ntxt _
    rw [hg, hd, show ((n.toNat : Nat) : Int) = n from by omega]
    simp [hs, hp]
  exact ⟨hok, by rw [tnumV, if_pos hok, hd]; omega⟩
theorem tnum_eq {p : ByteArray} (h : tnumOk p = true) : txtB (tnumV p) = p := by
  have h' := h
  simp only [tnumOk, Bool.and_eq_true, decide_eq_true_eq] at h
  rw [tnumV, if_pos h']
  exact h.2
def tvAt (s : ByteArray) (i : Nat) : Int := match (parts s 47)[i]? with
  | some p => tnumV p
  | none => 0
def tvA (s : ByteArray) : Int := tvAt s 0
def tvB (s : ByteArray) : Int := tvAt s 1
def tvC (s : ByteArray) : Int := tvAt s 2
def tvIs (s : ByteArray) : Bool := decide (vtxtB (tvA s) (tvB s) (tvC s) = s)
theorem vecOk_le {a b c : Int} (h : vecOkB a b c = true) : (0 ≤ a ∧ a ≤ 1000000) ∧ (0 ≤ b ∧ b ≤ 1000000) ∧ (0 ≤ c ∧ c ≤ 1000000) := by
  simp [vecOkB, resB, inB] at h; omega
theorem vtxt_list {a b c : Int} (h : vecOkB a b c = true) : (vtxtB a b c).data.toList = ntxt a.toNat ++ 47 :: (ntxt b.toNat ++ 47 :: ntxt c.toNat) := by
  obtain ⟨⟨a0, a1⟩, ⟨b0, b1⟩, ⟨c0, c1⟩⟩ := vecOk_le h
  rw [vtxtB, if_pos h, append_list, append_list, append_list, append_list, txtB_in a0 (by omega), txtB_in b0 (by omega), txtB_in c0 (by omega)]
  show ntxt a.toNat ++ [47] ++ ntxt b.toNat ++ [47] ++ ntxt c.toNat = _
  simp
theorem parts_of_list {s : ByteArray} {ls : List (List UInt8)} (h : splitL 47 s.data.toList = ls) : parts s 47 = ls.map fun l => ⟨l.toArray⟩ := by
  rw [← h, ← parts_split, List.map_map]
  have e : ((fun l : List UInt8 => (⟨l.toArray⟩ : ByteArray)) ∘ fun p : ByteArray => p.data.toList) = id := by
    funext p
    cases p
    simp
  rw [e, List.map_id]
theorem tv_yes {s : ByteArray} (h : tvIs s = true) : vecOkB (tvA s) (tvB s) (tvC s) = true ∧ parts s 47 = [txtB (tvA s), txtB (tvB s), txtB (tvC s)] := by
  have h' : vtxtB (tvA s) (tvB s) (tvC s) = s := of_decide_eq_true h
  cases hv : vecOkB (tvA s) (tvB s) (tvC s) with
  | true =>
    refine ⟨rfl, ?_⟩
    have hl := vtxt_list hv
    rw [h'] at hl
    have hs : splitL 47 s.data.toList = [ntxt (tvA s).toNat, ntxt (tvB s).toNat, ntxt (tvC s).toNat] := by
      rw [hl, splitL_cat _ _ _ (no47 _), splitL_cat _ _ _ (no47 _), splitL_none _ _ (no47 _)]
    obtain ⟨⟨a0, a1⟩, ⟨b0, b1⟩, ⟨c0, c1⟩⟩ := vecOk_le hv
    rw [parts_of_list hs, txtB_in a0 (by omega), txtB_in b0 (by omega), txtB_in c0 (by omega)]
    rfl
  | false =>
    exfalso
    rw [vtxtB, hv] at h'
    simp at h'
    have hp : parts s 47 = [⟨#[]⟩] := by rw [← h']; rfl
    have h0 : tnumV ⟨#[]⟩ = 0 := by rfl
    have e0 : tvA s = 0 := by simp [tvA, tvAt, hp, h0]
    have e1 : tvB s = 0 := by simp [tvB, tvAt, hp]
    have e2 : tvC s = 0 := by simp [tvC, tvAt, hp]
    rw [e0, e1, e2] at hv
    revert hv
    decide
theorem tv_three {s p0 p1 p2 : ByteArray} (hp : parts s 47 = [p0, p1, p2]) : tvIs s = (tnumOk p0 && tnumOk p1 && tnumOk p2 && vecOkB (tnumV p0) (tnumV p1) (tnumV p2)) := by
  have e0 : tvA s = tnumV p0 := by simp [tvA, tvAt, hp]
  have e1 : tvB s = tnumV p1 := by simp [tvB, tvAt, hp]
  have e2 : tvC s = tnumV p2 := by simp [tvC, tvAt, hp]
  cases hx : (tnumOk p0 && tnumOk p1 && tnumOk p2 && vecOkB (tnumV p0) (tnumV p1) (tnumV p2)) with
  | true =>
    simp only [Bool.and_eq_true] at hx
    obtain ⟨⟨⟨h0, h1⟩, h2⟩, hv⟩ := hx
    refine decide_eq_true ?_
    apply Go.WideShapes.bytes_inj
    rw [e0, e1, e2, vtxtB, if_pos hv, tnum_eq h0, tnum_eq h1, tnum_eq h2]
    have hj := join_splitL 47 s.data.toList
    rw [← parts_split, hp] at hj
    simp [joinL] at hj
    rw [append_list, append_list, append_list, append_list, ← hj]
    show _ ++ [47] ++ _ ++ [47] ++ _ = _
    simp
  | false =>
    cases hy : tvIs s with
    | false => rfl
    | true =>
      exfalso
      obtain ⟨hv, hq⟩ := tv_yes hy
      rw [hp] at hq
      simp only [List.cons.injEq, and_true] at hq
      obtain ⟨q0, q1, q2⟩ := hq
      obtain ⟨⟨a0, a1⟩, ⟨b0, b1⟩, ⟨c0, c1⟩⟩ := vecOk_le hv
      have k0 := (tnum_txt a0 (by omega)).1
      have k1 := (tnum_txt b0 (by omega)).1
      have k2 := (tnum_txt c0 (by omega)).1
      rw [← q0] at k0
      rw [← q1] at k1
      rw [← q2] at k2
      rw [e0, e1, e2] at hv
      rw [k0, k1, k2, hv] at hx
      cases hx
theorem tv_other {s : ByteArray} (h : (parts s 47).length ≠ 3) : tvIs s = false := by
  cases hy : tvIs s with
  | false => rfl
  | true => exact absurd (by rw [(tv_yes hy).2]; rfl) h
end Go.Proofs.Ytjnfdcojccgfoaa

namespace Go.Proofs.Ytjnfdcojccgfoaa
set_option linter.unusedSimpArgs false
set_option linter.unusedVariables false
set_option linter.unnecessarySimpa false
open Go.RowKit
def tvecV (s : ByteArray) : V := if tvIs s then ⟨tvA s, tvB s, tvC s⟩ else V.zero
theorem pieces_size (s : ByteArray) (u : UInt8) (k : Nat) : ∀ p ∈ (pieces s u k).1, p.size ≤ s.size := by
  induction k with
  | zero => simp [pieces]
  | succ k ih =>
    unfold pieces
    split
    · intro p hp
      rcases List.mem_append.1 hp with h | h
      · exact ih p h
      · simp at h; subst h; rw [ByteArray.size_extract]; omega
    · exact ih
theorem parts_size (s : ByteArray) (u : UInt8) : ∀ p ∈ parts s u, p.size ≤ s.size := by
  intro p hp
  rcases List.mem_append.1 hp with h | h
  · exact pieces_size s u _ p h
  · simp at h; subst h; rw [ByteArray.size_extract]; omega
theorem own_all {w : World} {lo : Nat} {e : TypeId} {v : Value} {n : Nat} {xs : List Value} (h : w.ownsRow lo e 1 v n xs) : ∃ A c, v = .slice A n c ∧ Rd w A n 1 xs ∧ (∀ g, A = some ⟨g, 0, none⟩ → lo ≤ g ∧ g < w.heap.size) := by
  obtain ⟨A, c, rfl, hr⟩ := own_rd h
  exact ⟨A, c, rfl, hr, fun g hg => ⟨own_ge h g (by rw [hg]; rfl), own_lt h g (by rw [hg]; rfl)⟩⟩

set_option maxHeartbeats 4000000 in
theorem textVec_any (s : ByteArray) (w : World) (hs : s.size ≤ 1048576) :
    Calls Try.prog 52 #[.string s] w fun e w' => e = .returned (.tuple #[.agg #[.int .i64 (tvecV s).A, .int .i64 (tvecV s).B, .int .i64 (tvecV s).C], .bool (tvIs s)]) ∧ Below w.heap.size w w' := by
  have HS := Lib.hid hs
  clear hs
  by_cases hn : (parts s 47).length = 3
  · obtain ⟨p0, p1, p2, hp⟩ : ∃ a b c, parts s 47 = [a, b, c] := by
      match hq : parts s 47, hn with
      | [a, b, c], _ => exact ⟨a, b, c, rfl⟩
    have ht := tv_three hp
    have hz0 : p0.size ≤ 1048576 := Nat.le_trans (parts_size s 47 p0 (by rw [hp]; simp)) HS.out
    have hz1 : p1.size ≤ 1048576 := Nat.le_trans (parts_size s 47 p1 (by rw [hp]; simp)) HS.out
    have hz2 : p2.size ≤ 1048576 := Nat.le_trans (parts_size s 47 p2 (by rw [hp]; simp)) HS.out
    have hV : tvIs s = true → tvecV s = ⟨tnumV p0, tnumV p1, tnumV p2⟩ := fun h => by
      simp [tvecV, h, tvA, tvB, tvC, tvAt, hp]
    have hP := Lib.hid hp
    have HT := Lib.hid ht
    have HV := Lib.hid hV
    have Z0 := Lib.hid hz0
    have Z1 := Lib.hid hz1
    have Z2 := Lib.hid hz2
    clear hp ht hV hn hz0 hz1 hz2
    go_enter Try.func52, Try.ntmps52
    go_wp2_with fail
    refine (parts_any s 47 47 rfl _ HS.out).mono ?_
    rintro e w1 ⟨v1, rfl, own1, hb1⟩
    rw [hP.out] at own1
    obtain ⟨A, c, rfl, rd, lt⟩ := own_all own1
    obtain ⟨g, rfl, hc⟩ := rd.2 (by simp)
    have c0 := hc 0 _ rfl
    have c1 := hc 1 _ rfl
    have c2 := hc 2 _ rfl
    obtain ⟨hg0, hg1⟩ := lt g rfl
    simp at hg0
    have hk0 := hb1.cell (p := ⟨w.heap.size, 0, none⟩) (by simp)
    have hk1 := hb1.cell (p := ⟨w.heap.size, 1, none⟩) (by simp)
    have hk2 := hb1.cell (p := ⟨w.heap.size, 2, none⟩) (by simp)
    have hq0 := hb1.frozen (p := ⟨w.heap.size, 0, none⟩) (by simp)
    have hq1 := hb1.frozen (p := ⟨w.heap.size, 1, none⟩) (by simp)
    have hq2 := hb1.frozen (p := ⟨w.heap.size, 2, none⟩) (by simp)
    have hy0 : w.heap.size < w1.heap.size := by have := hb1.size; simp at this; omega
    clear own1 rd lt hc
    go_wp2_with fail
    refine (textNum_any p0 _ (by unfold maxLen; have := Z0.out; omega)).mono ?_
    rintro e w2 ⟨rfl, hb2⟩
    obtain ⟨hc2, hf2⟩ := bcell hb2
    have hg12 : g < w2.heap.size := Nat.lt_of_lt_of_le hg1 hb2.size
    have hy2 : w.heap.size < w2.heap.size := Nat.lt_of_lt_of_le hy0 hb2.size
    have hm2 := fun o => hc2 g o hg1
    have hn2 := fun o => hc2 w.heap.size o hy0
    have ho2 := fun o => hf2 w.heap.size o hy0
    clear hc2 hf2
    go_wp2_with fail
    refine (textNum_any p1 _ (by unfold maxLen; have := Z1.out; omega)).mono ?_
    rintro e w3 ⟨rfl, hb3⟩
    obtain ⟨hc3, hf3⟩ := bcell hb3
    have hg13 : g < w3.heap.size := Nat.lt_of_lt_of_le hg12 hb3.size
    have hy3 : w.heap.size < w3.heap.size := Nat.lt_of_lt_of_le hy2 hb3.size
    have hm3 := fun o => hc3 g o hg12
    have hn3 := fun o => hc3 w.heap.size o hy2
    have ho3 := fun o => hf3 w.heap.size o hy2
    clear hc3 hf3
    go_wp2_with fail
    refine (textNum_any p2 _ (by unfold maxLen; have := Z2.out; omega)).mono ?_
    rintro e w4 ⟨rfl, hb4⟩
    obtain ⟨hc4, hf4⟩ := bcell hb4
    have hg14 : g < w4.heap.size := Nat.lt_of_lt_of_le hg13 hb4.size
    have hy4 : w.heap.size < w4.heap.size := Nat.lt_of_lt_of_le hy3 hb4.size
    have hm4 := fun o => hc4 g o hg13
    have hn4 := fun o => hc4 w.heap.size o hy3
    have ho4 := fun o => hf4 w.heap.size o hy3
    clear hc4 hf4
    go_wp2_with (go_at_call 106; refine (vecOk_raw _ _ _ _).mono ?_; rintro e w9 ⟨rfl, hb9⟩; obtain ⟨hc9, hf9⟩ := bcell hb9; have hs9 := hb9.size; (try simp at hs9); have hy90 : g < w9.heap.size := (by omega); have hk90 := fun o => hc9 (g) o (by first | omega | (simp <;> omega)); have hg90 := fun o => hf9 (g) o (by first | omega | (simp <;> omega)); have hy91 : w.heap.size < w9.heap.size := (by omega); have hk91 := fun o => hc9 (w.heap.size) o (by first | omega | (simp <;> omega)); have hg91 := fun o => hf9 (w.heap.size) o (by first | omega | (simp <;> omega)); (try (have hx90 : w1.heap.size < w9.heap.size := (by omega); have hm90 := fun o => hc9 (w1.heap.size) o (by first | omega | (simp <;> omega)); have hn90 := fun o => hf9 (w1.heap.size) o (by first | omega | (simp <;> omega)))); (try (have hx91 : w2.heap.size < w9.heap.size := (by omega); have hm91 := fun o => hc9 (w2.heap.size) o (by first | omega | (simp <;> omega)); have hn91 := fun o => hf9 (w2.heap.size) o (by first | omega | (simp <;> omega)))); (try (have hx92 : w3.heap.size < w9.heap.size := (by omega); have hm92 := fun o => hc9 (w3.heap.size) o (by first | omega | (simp <;> omega)); have hn92 := fun o => hf9 (w3.heap.size) o (by first | omega | (simp <;> omega)))); (try (have hx93 : w4.heap.size < w9.heap.size := (by omega); have hm93 := fun o => hc9 (w4.heap.size) o (by first | omega | (simp <;> omega)); have hn93 := fun o => hf9 (w4.heap.size) o (by first | omega | (simp <;> omega)))); (try (have hx94 : w5.heap.size < w9.heap.size := (by omega); have hm94 := fun o => hc9 (w5.heap.size) o (by first | omega | (simp <;> omega)); have hn94 := fun o => hf9 (w5.heap.size) o (by first | omega | (simp <;> omega)))); (try (have hx95 : w6.heap.size < w9.heap.size := (by omega); have hm95 := fun o => hc9 (w6.heap.size) o (by first | omega | (simp <;> omega)); have hn95 := fun o => hf9 (w6.heap.size) o (by first | omega | (simp <;> omega)))); (try (have hx96 : w7.heap.size < w9.heap.size := (by omega); have hm96 := fun o => hc9 (w7.heap.size) o (by first | omega | (simp <;> omega)); have hn96 := fun o => hf9 (w7.heap.size) o (by first | omega | (simp <;> omega)))); (try (have hx97 : w8.heap.size < w9.heap.size := (by omega); have hm97 := fun o => hc9 (w8.heap.size) o (by first | omega | (simp <;> omega)); have hn97 := fun o => hf9 (w8.heap.size) o (by first | omega | (simp <;> omega)))); clear hc9 hf9)
    all_goals go_light
    all_goals
      cases e1 : tvIs s
      · first
          | (exfalso; rw [HT.out] at e1; simp_all; done)
          | (rw [show tvecV s = V.zero from by simp [tvecV, e1]]; refine bodyPost_ret (v := .tuple #[.agg #[.int .i64 0, .int .i64 0, .int .i64 0], .bool false]) (by simp [results, Try.results52, go_sem, V.zero, *]) rfl ⟨rfl, (by repeat (first | exact Below.refl _ _ | (refine bstep ?_ (below_alloc _ _)) | (refine bstep ?_ (by assumption)) | (refine Below.setCell ?_ (by simp <;> omega) _) | refine Below.drew ?_))⟩)
      · first
          | (exfalso; rw [HT.out] at e1; simp_all; done)
          | (rw [HV.out e1]; refine bodyPost_ret (v := .tuple #[.agg #[.int .i64 (tnumV p0), .int .i64 (tnumV p1), .int .i64 (tnumV p2)], .bool true]) (by simp [results, Try.results52, go_sem, *]) rfl ⟨rfl, (by repeat (first | exact Below.refl _ _ | (refine bstep ?_ (below_alloc _ _)) | (refine bstep ?_ (by assumption)) | (refine Below.setCell ?_ (by simp <;> omega) _) | refine Below.drew ?_))⟩)
  · have e1 := tv_other hn
    have e2 : tvecV s = V.zero := by simp [tvecV, e1]
    rw [e1, e2]
    clear e1 e2
    have hn' : (((parts s 47).length : Int) == 3) = false := by
      rw [beq_eq_false_iff_ne]; omega
    clear hn
    go_enter Try.func52, Try.ntmps52
    go_wp2_with fail
    refine (parts_any s 47 47 rfl _ HS.out).mono ?_
    rintro e w1 ⟨v1, rfl, own1, hb1⟩
    obtain ⟨A, c, rfl, rd, lt⟩ := own_all own1
    have hk0 := hb1.cell (p := ⟨w.heap.size, 0, none⟩) (by simp)
    have hk1 := hb1.cell (p := ⟨w.heap.size, 1, none⟩) (by simp)
    have hk2 := hb1.cell (p := ⟨w.heap.size, 2, none⟩) (by simp)
    have hq0 := hb1.frozen (p := ⟨w.heap.size, 0, none⟩) (by simp)
    have hq1 := hb1.frozen (p := ⟨w.heap.size, 1, none⟩) (by simp)
    have hq2 := hb1.frozen (p := ⟨w.heap.size, 2, none⟩) (by simp)
    clear own1 rd lt
    go_wp2
    go_light
    refine bodyPost_ret (v := .tuple #[.agg #[.int .i64 0, .int .i64 0, .int .i64 0], .bool false]) (by simp [results, Try.results52, go_sem, V.zero, *]) rfl ⟨rfl, (by repeat (first | exact Below.refl _ _ | (refine bstep ?_ (below_alloc _ _)) | (refine bstep ?_ (by assumption)) | (refine Below.setCell ?_ (by simp <;> omega) _) | refine Below.drew ?_))⟩
end Go.Proofs.Ytjnfdcojccgfoaa

namespace Go.Proofs.Ytjnfdcojccgfoaa
set_option linter.unusedSimpArgs false
set_option linter.unusedVariables false
set_option linter.unnecessarySimpa false
open Go.RowKit
def upTo (s : ByteArray) (k j : Nat) : Int := if j < k then tvAt s j else 0
theorem upTo_end (s : ByteArray) (j : Nat) : upTo s (parts s 47).length j = tvAt s j := by
  unfold upTo
  split
  · rfl
  · rename_i h
    rw [tvAt, List.getElem?_eq_none (by omega)]
theorem upTo_step (s : ByteArray) (k j : Nat) (h : k ≠ j) : upTo s (k + 1) j = upTo s k j := by
  unfold upTo
  by_cases h1 : j < k
  · rw [if_pos h1, if_pos (by omega)]
  · rw [if_neg h1, if_neg (by omega)]
theorem upTo_at (s : ByteArray) (k : Nat) : upTo s (k + 1) k = tvAt s k := by simp [upTo]
theorem tvAt_get {s : ByteArray} {k : Nat} {p : ByteArray} (h : (parts s 47)[k]? = some p) : tvAt s k = tnumV p := by rw [tvAt, h]
theorem scSame {w : World} {a : Addr} {v u : Value} (h : w.cell? a = some u) : (w.setCell a v).cell? a = some v := World.cell?_setCell_same' w a v (by rw [h]; rfl)
theorem scOther {w : World} {a b : Addr} {v : Value} (h : a ≠ b) : (w.setCell a v).cell? b = w.cell? b := by
  first | exact World.cell?_setCell_other h | exact World.cell?_setCell_other _ _ _ _ h | exact World.cell?_setCell_other w a b v h | exact World.cell?_setCell_other w a v b h
theorem scFrozen {w : World} {a b : Addr} {v : Value} : (w.setCell a v).frozen? b = w.frozen? b := by simp
/-- What the loop of TextVec keeps: the three numbers in block b1, the result's cells in block b0. -/
structure TvKeep (w wr : World) (x y z : Int) : Prop where
  c0 : wr.cell? ⟨w.heap.size + 1, 0, none⟩ = some (.int .i64 x)
  c1 : wr.cell? ⟨w.heap.size + 1, 1, none⟩ = some (.int .i64 y)
  c2 : wr.cell? ⟨w.heap.size + 1, 2, none⟩ = some (.int .i64 z)
  f : ∀ o, wr.frozen? ⟨w.heap.size + 1, o, none⟩ = false
  z0 : wr.cell? ⟨w.heap.size, 0, none⟩ = some (.int .i64 0)
  z1 : wr.cell? ⟨w.heap.size, 1, none⟩ = some (.int .i64 0)
  z2 : wr.cell? ⟨w.heap.size, 2, none⟩ = some (.int .i64 0)
  fz : ∀ o, wr.frozen? ⟨w.heap.size, o, none⟩ = false
  sz : w.heap.size + 1 < wr.heap.size
theorem TvKeep.below {w wr w' : World} {x y z : Int} (h : TvKeep w wr x y z) (hb : Below wr.heap.size wr w') : TvKeep w w' x y z := by
  obtain ⟨hc, hf⟩ := bcell hb
  have h0 : w.heap.size < wr.heap.size := by have := h.sz; omega
  exact ⟨(hc _ _ h.sz).trans h.c0, (hc _ _ h.sz).trans h.c1, (hc _ _ h.sz).trans h.c2, fun o => (hf _ _ h.sz).trans (h.f o), (hc _ _ h0).trans h.z0, (hc _ _ h0).trans h.z1, (hc _ _ h0).trans h.z2, fun o => (hf _ _ h0).trans (h.fz o), Nat.lt_of_lt_of_le h.sz hb.size⟩
theorem TvKeep.set0 {w wr : World} {x y z : Int} (h : TvKeep w wr x y z) (v : Int) : TvKeep w (wr.setCell ⟨w.heap.size + 1, 0, none⟩ (.int .i64 v)) v y z := by
  have hs := h.sz
  refine ⟨?_, ?_, ?_, ?_, ?_, ?_, ?_, ?_, by simp [World.setCell]; exact hs⟩
  · exact scSame h.c0
  · rw [scOther (by simp)]; exact h.c1
  · rw [scOther (by simp)]; exact h.c2
  · intro o; rw [scFrozen]; exact h.f o
  · rw [scOther (by simp)]; exact h.z0
  · rw [scOther (by simp)]; exact h.z1
  · rw [scOther (by simp)]; exact h.z2
  · intro o; rw [scFrozen]; exact h.fz o
theorem TvKeep.set1 {w wr : World} {x y z : Int} (h : TvKeep w wr x y z) (v : Int) : TvKeep w (wr.setCell ⟨w.heap.size + 1, 1, none⟩ (.int .i64 v)) x v z := by
  have hs := h.sz
  refine ⟨?_, ?_, ?_, ?_, ?_, ?_, ?_, ?_, by simp [World.setCell]; exact hs⟩
  · rw [scOther (by simp)]; exact h.c0
  · exact scSame h.c1
  · rw [scOther (by simp)]; exact h.c2
  · intro o; rw [scFrozen]; exact h.f o
  · rw [scOther (by simp)]; exact h.z0
  · rw [scOther (by simp)]; exact h.z1
  · rw [scOther (by simp)]; exact h.z2
  · intro o; rw [scFrozen]; exact h.fz o
theorem TvKeep.set2 {w wr : World} {x y z : Int} (h : TvKeep w wr x y z) (v : Int) : TvKeep w (wr.setCell ⟨w.heap.size + 1, 2, none⟩ (.int .i64 v)) x y v := by
  have hs := h.sz
  refine ⟨?_, ?_, ?_, ?_, ?_, ?_, ?_, ?_, by simp [World.setCell]; exact hs⟩
  · rw [scOther (by simp)]; exact h.c0
  · rw [scOther (by simp)]; exact h.c1
  · exact scSame h.c2
  · intro o; rw [scFrozen]; exact h.f o
  · rw [scOther (by simp)]; exact h.z0
  · rw [scOther (by simp)]; exact h.z1
  · rw [scOther (by simp)]; exact h.z2
  · intro o; rw [scFrozen]; exact h.fz o

theorem vtxtSize (a b c : Int) : (vtxtB a b c).size ≤ 100 := by
  unfold vtxtB
  split
  · have h1 := txtB_size a
    have h2 := txtB_size b
    have h3 := txtB_size c
    have h4 : slashB.size = 1 := rfl
    simp only [ByteArray.size_append]
    omega
  · decide
theorem Rd.step_ {w w' : World} {A : Option Addr} {n : Nat} {xs : List Value} {p : Addr} (h : Rd w A n 1 xs) (hb : Below w.heap.size w w') (hlt : ∀ g, A = some ⟨g, 0, none⟩ → g < w.heap.size) (hp : ∀ g, A = some ⟨g, 0, none⟩ → g ≠ p.block) (v : Value) : Rd (w'.setCell p v) A n 1 xs :=
  ⟨h.1, fun hn => by
    obtain ⟨g, rfl, hc⟩ := h.2 hn
    refine ⟨g, rfl, fun j u hj => ?_⟩
    rw [scOther (fun e => hp g rfl (by rw [e]))]
    exact (hb.cell (p := ⟨g, j, none⟩) (hlt g rfl)).trans (hc j u hj)⟩
set_option maxHeartbeats 4000000 in
theorem stextVec_any (s : ByteArray) (w : World) (hs : s.size ≤ 1048576) :
    Calls Try.prog 153 #[.string s] w fun e w' => e = .returned (.tuple #[.agg #[.int .i64 (tvecV s).A, .int .i64 (tvecV s).B, .int .i64 (tvecV s).C], .bool (tvIs s)]) ∧ Below w.heap.size w w' := by
  have HS := Lib.hid hs
  have hpl := (pieces_le s 47 s.size).1
  have HL := Lib.hid (show (parts s 47).length ≤ 1048577 by simp [parts]; omega)
  have hmn : (parts s 47).length ≤ 9223372036854775807 := by have := HL.out; omega
  clear hs hpl
  go_enter Try.func153, Try.ntmps153
  go_wp2_with fail
  refine (sparts_any s 47 47 rfl _ HS.out).mono ?_
  rintro e w1 ⟨v1, rfl, own1, hb1⟩
  obtain ⟨A, c, rfl, rd, lt⟩ := own_all own1
  have hbw1 : Below w.heap.size w w1 := bstep (bstep (below_alloc _ _) (below_alloc _ _)) hb1
  have K1 : TvKeep w w1 (upTo s 0 0) (upTo s 0 1) (upTo s 0 2) := by
    have h0 := fun i => hb1.cell (p := ⟨w.heap.size, i, none⟩) (by simp; omega)
    have h1 := fun i => hb1.cell (p := ⟨w.heap.size + 1, i, none⟩) (by simp)
    have g0 := fun i => hb1.frozen (p := ⟨w.heap.size, i, none⟩) (by simp; omega)
    have g1 := fun i => hb1.frozen (p := ⟨w.heap.size + 1, i, none⟩) (by simp)
    have hz := hb1.size
    simp at hz
    refine ⟨?_, ?_, ?_, ?_, ?_, ?_, ?_, ?_, by omega⟩
    all_goals first | (rw [h1]; simp [go_sem, upTo]; done) | (rw [h0]; simp [go_sem]; done) | (intro o; rw [g1]; simp [go_sem]; done) | (intro o; rw [g0]; simp [go_sem]; done)
  have lt' : ∀ g, A = some ⟨g, 0, none⟩ → w.heap.size + 1 < g ∧ g < w1.heap.size := fun g hg => by
    have := lt g hg
    simp at this
    omega
  have R1 := Lib.hid rd
  have L1 := Lib.hid lt'
  have HK1 := Lib.hid K1
  clear own1 rd lt lt' K1 hb1
  go_wp2_with fail
  go_loopw [12] (fun i wr => ∃ k : Nat, k ≤ (parts s 47).length ∧ i = .int .i64 k ∧ TvKeep w wr (upTo s k 0) (upTo s k 1) (upTo s k 2) ∧ Rd wr A (parts s 47).length 1 ((parts s 47).map Value.string) ∧ Below w.heap.size w wr ∧ w1.heap.size ≤ wr.heap.size) (fun i _ => (parts s 47).length - (intOf i).toNat)
  case atStart => exact ⟨0, Nat.zero_le _, rfl, HK1.out, R1.out, hbw1, Nat.le_refl _⟩
  case round =>
    obtain ⟨k, hk, rfl, K, R, hbw, hw1⟩ := hrel
    have HK := Lib.hid K
    have HR := Lib.hid R
    clear K R
    by_cases hlt : k < (parts s 47).length
    · obtain ⟨g, u, rfl, hu, hc⟩ := HR.out.at_ hlt
      obtain ⟨hg0, hg1⟩ := L1.out g rfl
      have hg : g < wr.heap.size := by omega
      rw [List.getElem?_map, List.getElem?_eq_getElem hlt] at hu
      obtain rfl := Option.some.inj hu
      have hp : (parts s 47)[k]? = some (parts s 47)[k] := List.getElem?_eq_getElem hlt
      have hz : (parts s 47)[k].size ≤ 1048576 := Nat.le_trans (parts_size s 47 _ (List.getElem_mem hlt)) HS.out
      generalize (parts s 47)[k] = p at *
      have HP := Lib.hid hp
      have HZ := Lib.hid hz
      clear hu hp hz
      have hlt' : (k : Int) < (parts s 47).length := by omega
      by_cases h3 : k < 3
      · have hk3 : k = 0 ∨ k = 1 ∨ k = 2 := by omega
        rcases hk3 with rfl | rfl | rfl
        · skip
          go_wp2_with fail
          refine (stextNum_any p _ (by unfold maxLen; have := HZ.out; omega)).mono ?_
          rintro e w2 ⟨rfl, hb2⟩
          have K2 := HK.out.below hb2
          have hg2 : g < w2.heap.size := Nat.lt_of_lt_of_le hg hb2.size
          have HK2 := Lib.hid K2
          obtain ⟨k0, k1, k2, kf, kz0, kz1, kz2, kfz, ksz⟩ := K2
          go_wp2
          go_roundw
          case rel =>
            refine ⟨1, by omega, by go_num, ?_, ?_, ?_⟩
            · show TvKeep w _ (upTo s (0 + 1) 0) (upTo s (0 + 1) 1) (upTo s (0 + 1) 2)
              rw [upTo_at s 0, upTo_step s 0 1 (by omega), upTo_step s 0 2 (by omega), tvAt_get HP.out]
              exact HK2.out.set0 (tnumV p)
            · exact HR.out.step_ hb2 (fun g' hg' => by injection hg' with h1; injection h1 with h2; omega) (fun g' hg' => by injection hg' with h1; injection h1 with h2; simp; omega) _
            · exact ⟨(bstep hbw hb2).setCell (by simp) _, by simp [World.setCell]; have := hb2.size; omega⟩
          case measure => simp [intOf]; omega
        · skip
          go_wp2_with fail
          refine (stextNum_any p _ (by unfold maxLen; have := HZ.out; omega)).mono ?_
          rintro e w2 ⟨rfl, hb2⟩
          have K2 := HK.out.below hb2
          have hg2 : g < w2.heap.size := Nat.lt_of_lt_of_le hg hb2.size
          have HK2 := Lib.hid K2
          obtain ⟨k0, k1, k2, kf, kz0, kz1, kz2, kfz, ksz⟩ := K2
          go_wp2
          go_roundw
          case rel =>
            refine ⟨2, by omega, by go_num, ?_, ?_, ?_⟩
            · show TvKeep w _ (upTo s (1 + 1) 0) (upTo s (1 + 1) 1) (upTo s (1 + 1) 2)
              rw [upTo_at s 1, upTo_step s 1 0 (by omega), upTo_step s 1 2 (by omega), tvAt_get HP.out]
              exact HK2.out.set1 (tnumV p)
            · exact HR.out.step_ hb2 (fun g' hg' => by injection hg' with h1; injection h1 with h2; omega) (fun g' hg' => by injection hg' with h1; injection h1 with h2; simp; omega) _
            · exact ⟨(bstep hbw hb2).setCell (by simp) _, by simp [World.setCell]; have := hb2.size; omega⟩
          case measure => simp [intOf]; omega
        · skip
          go_wp2_with fail
          refine (stextNum_any p _ (by unfold maxLen; have := HZ.out; omega)).mono ?_
          rintro e w2 ⟨rfl, hb2⟩
          have K2 := HK.out.below hb2
          have hg2 : g < w2.heap.size := Nat.lt_of_lt_of_le hg hb2.size
          have HK2 := Lib.hid K2
          obtain ⟨k0, k1, k2, kf, kz0, kz1, kz2, kfz, ksz⟩ := K2
          go_wp2
          go_roundw
          case rel =>
            refine ⟨3, by omega, by go_num, ?_, ?_, ?_⟩
            · show TvKeep w _ (upTo s (2 + 1) 0) (upTo s (2 + 1) 1) (upTo s (2 + 1) 2)
              rw [upTo_at s 2, upTo_step s 2 0 (by omega), upTo_step s 2 1 (by omega), tvAt_get HP.out]
              exact HK2.out.set2 (tnumV p)
            · exact HR.out.step_ hb2 (fun g' hg' => by injection hg' with h1; injection h1 with h2; omega) (fun g' hg' => by injection hg' with h1; injection h1 with h2; simp; omega) _
            · exact ⟨(bstep hbw hb2).setCell (by simp) _, by simp [World.setCell]; have := hb2.size; omega⟩
          case measure => simp [intOf]; omega
      · have h3' : ¬ (k : Int) < 3 := by omega
        go_wp2
        refine ⟨⟨k + 1, by omega, by go_num, ?_, HR.out, hbw, hw1⟩, by simp [intOf]; omega⟩
        rw [upTo_step s k 0 (by omega), upTo_step s k 1 (by omega), upTo_step s k 2 (by omega)]
        exact HK.out
    · obtain rfl : k = (parts s 47).length := by omega
      have K := HK.out
      rw [upTo_end, upTo_end, upTo_end] at K
      clear HK HR
      obtain ⟨k0, k1, k2, kf, kz0, kz1, kz2, kfz, ksz⟩ := K
      have hvz := vtxtSize (tvAt s 0) (tvAt s 1) (tvAt s 2)
      have hwz : w.heap.size < wr.heap.size := by omega
      go_wp2
      go_region_held3 (fun w' => w'.cell? ⟨w.heap.size + 1, 0, none⟩ = some (.int .i64 (tvAt s 0)) ∧ w'.cell? ⟨w.heap.size + 1, 1, none⟩ = some (.int .i64 (tvAt s 1)) ∧ w'.cell? ⟨w.heap.size + 1, 2, none⟩ = some (.int .i64 (tvAt s 2))) (simp [go_sem, *, World.cell?_alloc_some, World.cell?_setCell_far, Nat.lt_add_right, Nat.ne_of_gt]) (fail)
      go_wp2_with fail
      refine (svecText_any _ _ _ _).mono ?_
      rintro e w3 ⟨rfl, hb3⟩
      have hs3 := hb3.size
      simp at hs3
      have m0 := fun o => hb3.cell (p := ⟨wr.heap.size, o, none⟩) (by simp)
      have m1 := fun o => hb3.cell (p := ⟨w.heap.size, o, none⟩) (by simp; omega)
      have m2 := fun o => hb3.frozen (p := ⟨w.heap.size, o, none⟩) (by simp; omega)
      cases e1 : tvIs s
      · have hq2 : ((vtxtB (tvAt s 0) (tvAt s 1) (tvAt s 2)).toList == s.toList) = false := str_ne e1
        have E1 := Lib.hid e1
        clear e1
        go_wp2
        go_light
        rw [show tvecV s = V.zero from by simp [tvecV, E1.out]]
        rw [E1.out]
        refine bodyPost_ret (v := .tuple #[.agg #[.int .i64 0, .int .i64 0, .int .i64 0], .bool false]) (by simp [results, Try.results153, go_sem, V.zero, *]) rfl ⟨rfl, (by repeat (first | exact Below.refl _ _ | (refine bstep ?_ (below_alloc _ _)) | (refine bstep ?_ (by assumption)) | (refine Below.setCell ?_ (by simp <;> omega) _) | refine Below.drew ?_))⟩
      · have hq2 : ((vtxtB (tvAt s 0) (tvAt s 1) (tvAt s 2)).toList == s.toList) = true := str_eq e1
        have E1 := Lib.hid e1
        clear e1
        go_wp2
        go_light
        rw [show tvecV s = ⟨tvAt s 0, tvAt s 1, tvAt s 2⟩ from by simp [tvecV, E1.out, tvA, tvB, tvC]]
        rw [E1.out]
        refine bodyPost_ret (v := .tuple #[.agg #[.int .i64 (tvAt s 0), .int .i64 (tvAt s 1), .int .i64 (tvAt s 2)], .bool true]) (by simp [results, Try.results153, go_sem, *]) rfl ⟨rfl, (by repeat (first | exact Below.refl _ _ | (refine bstep ?_ (below_alloc _ _)) | (refine bstep ?_ (by assumption)) | (refine Below.setCell ?_ (by simp <;> omega) _) | refine Below.drew ?_))⟩
end Go.Proofs.Ytjnfdcojccgfoaa
