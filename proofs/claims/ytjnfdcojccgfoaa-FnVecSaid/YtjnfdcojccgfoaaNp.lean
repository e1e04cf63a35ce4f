import Derived.Test.YtjnfdcojccgfoaaNd
namespace Go.Proofs.Ytjnfdcojccgfoaa
set_option linter.unusedSimpArgs false
set_option linter.unusedVariables false
set_option linter.unnecessarySimpa false
open Go.RowKit
/-- The pieces that are complete behind k bytes, and where the next one begins. -/
def pieces (s : ByteArray) (b : UInt8) : Nat → List ByteArray × Nat
  | 0 => ([], 0)
  | k + 1 => if (s.data.toList.getD k 0) = b then ((pieces s b k).1 ++ [s.extract (pieces s b k).2 k], k + 1) else pieces s b k
def parts (s : ByteArray) (b : UInt8) : List ByteArray := (pieces s b s.size).1 ++ [s.extract (pieces s b s.size).2 s.size]
theorem pieces_le (s : ByteArray) (b : UInt8) (k : Nat) : (pieces s b k).1.length ≤ k ∧ (pieces s b k).2 ≤ k := by
  induction k with
  | zero => simp [pieces]
  | succ k ih =>
    unfold pieces
    split
    · simp; exact ih.1
    · omega
theorem infoS : (Try.prog.info? 9).map (fun i => (i.zero, i.size, i.bytes)) = some (some (.string ⟨#[]⟩), 1, 16) := by kernel_rfl
theorem getD_byte (s : ByteArray) (k : Nat) (h : k < s.size) : s.data.toList.getD k 0 = s[k] := by
  have : k < s.data.toList.length := by simpa using h
  rw [List.getD_eq_getElem?_getD, List.getElem?_eq_getElem this]
  rfl
theorem own_empty (w : World) (e : TypeId) : (w.alloc (.cells #[] e)).ownsRow w.heap.size e 1 (.slice (some ⟨w.heap.size, 0, none⟩) 0 0) 0 [] :=
  ⟨rfl, Or.inr ⟨w.heap.size, 0, #[], rfl, Nat.le_refl _, heap_alloc_new w _, Nat.le_refl _, by simp, rfl, rfl⟩⟩
theorem own_ge {w : World} {base : Nat} {e : TypeId} {size n : Nat} {v : Value} {xs : List Value} (h : w.ownsRow base e size v n xs) : ∀ k, v.ownBlock = some k → base ≤ k := by
  intro k hk
  rcases h.2 with ⟨rfl, _⟩ | ⟨g, cap, cur, rfl, hg, _⟩
  · simp [Value.ownBlock] at hk
  · simp [Value.ownBlock] at hk; omega
def SlOwn (w : World) (B : Nat) (e : TypeId) (v : Value) (xs : List Value) : Prop := w.ownsRow B e 1 v xs.length xs

set_option maxHeartbeats 1000000 in
theorem parts_any (s : ByteArray) (b : Int) (u : UInt8) (hu : b = u.toNat) (w : World) (hs : s.size ≤ 1048576) :
    Calls Try.prog 27 #[.string s, .int .u8 b] w fun e w' => ∃ v, e = .returned v ∧ w'.ownsRow w.heap.size 9 1 v (parts s u).length ((parts s u).map Value.string) ∧ Below w.heap.size w w' := by
  obtain ⟨i0, hi, hz0, hz1, hz2⟩ := info_parts infoS
  have hm : s.size ≤ 9223372036854775807 := by omega
  have HS := Lib.hid hs
  have HU := Lib.hid hu
  clear hs hu
  go_enter Try.func27, Try.ntmps27
  go_wp2
  go_loopw [5, 6, 7] (fun v f i wr => ∃ k : Nat, k ≤ s.size ∧ i = .int .i64 k ∧ f = .int .i64 ((pieces s u k).2 : Nat) ∧ wr.ownsRow w.heap.size 9 1 v (pieces s u k).1.length ((pieces s u k).1.map Value.string) ∧ Below w.heap.size w wr) (fun _ _ i _ => s.size - (intOf i).toNat)
  case atStart => exact ⟨0, Nat.zero_le _, rfl, rfl, own_empty w _, below_alloc _ _⟩
  case round =>
    obtain ⟨k, hk, rfl, rfl, hown, hb⟩ := hrel
    obtain ⟨hp1, hp2⟩ := pieces_le s u k
    generalize hp : pieces s u k = p at *
    obtain ⟨l, f⟩ := p
    dsimp only at hown hp1 hp2 ⊢
    have HP := Lib.hid hp
    clear hp
    by_cases hlt : k < s.size
    · by_cases hc : s[k] = u
      · have hq : ((s[k].toNat : Int) == b) = true := by rw [HU.out, hc]; simp
        have HC := Lib.hid hc
        clear hc
        go_wp2_with (at_builtin; refine wpList_append_own _ rfl _ _ 25 rfl w.heap.size 9 i0 (.string ⟨#[]⟩) 1 16 Try.underlying25 hi hz0 hz1 hz2 rfl (by decide) _ _ _ rfl (hown.alloc _) ⟨wr.heap.size, 0, none⟩ 1 1 [.string (s.extract f k)] rfl rfl ?c1 ?c2 ?c3 ?c4 ?c5 ?_)
        case c1 => intro j y hy; match j, hy with | 0, hy => (simp at hy; subst hy; simp [Addr.add])
        case c2 => simp [Value.oneCell']
        case c3 => unfold maxLen; have := HS.out; omega
        case c4 => have := HS.out; omega
        case c5 => simp; have := hb.size; omega
        intro v' w1 hown1 hg1 _
        go_wp2
        go_roundw
        case rel =>
          have e1 : pieces s u (k + 1) = (l ++ [s.extract f k], k + 1) := by
            rw [pieces, HP.out, getD_byte s k hlt, if_pos HC.out]
          refine ⟨k + 1, by omega, by go_num, by rw [e1]; go_num, ?_, ?_⟩
          · rw [e1]
            simpa using hown1
          · exact Below.grown (hb.alloc hb.size _) hg1 (by simp; have := hb.size; omega) (own_ge hown)
        case measure => simp [intOf]; omega
      · have hq : ((s[k].toNat : Int) == b) = false := by
          rw [HU.out, beq_eq_false_iff_ne]
          intro h
          exact hc (UInt8.toNat_inj.1 (by omega))
        have HC := Lib.hid hc
        clear hc
        go_wp2
        refine ⟨⟨k + 1, by omega, by go_num, ?_, ?_, hb⟩, by simp [intOf]; omega⟩
        · rw [pieces, HP.out, getD_byte s k hlt, if_neg HC.out]
        · rw [pieces, HP.out, getD_byte s k hlt, if_neg HC.out]; exact hown
    · obtain rfl : k = s.size := by omega
      go_wp2_with (at_builtin; refine wpList_append_own _ rfl _ _ 25 rfl w.heap.size 9 i0 (.string ⟨#[]⟩) 1 16 Try.underlying25 hi hz0 hz1 hz2 rfl (by decide) _ _ _ rfl (hown.alloc _) ⟨wr.heap.size, 0, none⟩ 1 1 [.string (s.extract f s.size)] rfl rfl ?c1 ?c2 ?c3 ?c4 ?c5 ?_)
      case c1 => intro j y hy; match j, hy with | 0, hy => (simp at hy; subst hy; simp [Addr.add])
      case c2 => simp [Value.oneCell']
      case c3 => unfold maxLen; have := HS.out; omega
      case c4 => have := HS.out; omega
      case c5 => simp; have := hb.size; omega
      intro v' w1 hown1 hg1 _
      go_wp2
      go_ret
      refine ⟨_, rfl, ?_, ?_⟩
      · have e1 : parts s u = l ++ [s.extract f s.size] := by rw [parts, HP.out]
        rw [e1]
        simpa using hown1
      · exact Below.grown (hb.alloc hb.size _) hg1 (by simp; have := hb.size; omega) (own_ge hown)

set_option maxHeartbeats 1000000 in
theorem sparts_any (s : ByteArray) (b : Int) (u : UInt8) (hu : b = u.toNat) (w : World) (hs : s.size ≤ 1048576) :
    Calls Try.prog 28 #[.string s, .int .u8 b] w fun e w' => ∃ v, e = .returned v ∧ w'.ownsRow w.heap.size 9 1 v (parts s u).length ((parts s u).map Value.string) ∧ Below w.heap.size w w' := by
  obtain ⟨i0, hi, hz0, hz1, hz2⟩ := info_parts infoS
  have hm : s.size ≤ 9223372036854775807 := by omega
  have HS := Lib.hid hs
  have HU := Lib.hid hu
  clear hs hu
  go_enter Try.func28, Try.ntmps28
  go_wp2
  go_loopw [5, 6, 7] (fun v f i wr => ∃ k : Nat, k ≤ s.size ∧ i = .int .i64 k ∧ f = .int .i64 ((pieces s u k).2 : Nat) ∧ wr.ownsRow w.heap.size 9 1 v (pieces s u k).1.length ((pieces s u k).1.map Value.string) ∧ Below w.heap.size w wr) (fun _ _ i _ => s.size - (intOf i).toNat)
  case atStart => exact ⟨0, Nat.zero_le _, rfl, rfl, own_empty w _, below_alloc _ _⟩
  case round =>
    obtain ⟨k, hk, rfl, rfl, hown, hb⟩ := hrel
    obtain ⟨hp1, hp2⟩ := pieces_le s u k
    generalize hp : pieces s u k = p at *
    obtain ⟨l, f⟩ := p
    dsimp only at hown hp1 hp2 ⊢
    have HP := Lib.hid hp
    clear hp
    by_cases hlt : k < s.size
    · by_cases hc : s[k] = u
      · have hq : ((s[k].toNat : Int) == b) = true := by rw [HU.out, hc]; simp
        have HC := Lib.hid hc
        clear hc
        go_wp2_with (at_builtin; refine wpList_append_own _ rfl _ _ 25 rfl w.heap.size 9 i0 (.string ⟨#[]⟩) 1 16 Try.underlying25 hi hz0 hz1 hz2 rfl (by decide) _ _ _ rfl (hown.alloc _) ⟨wr.heap.size, 0, none⟩ 1 1 [.string (s.extract f k)] rfl rfl ?c1 ?c2 ?c3 ?c4 ?c5 ?_)
        case c1 => intro j y hy; match j, hy with | 0, hy => (simp at hy; subst hy; simp [Addr.add])
        case c2 => simp [Value.oneCell']
        case c3 => unfold maxLen; have := HS.out; omega
        case c4 => have := HS.out; omega
        case c5 => simp; have := hb.size; omega
        intro v' w1 hown1 hg1 _
        go_wp2
        go_roundw
        case rel =>
          have e1 : pieces s u (k + 1) = (l ++ [s.extract f k], k + 1) := by
            rw [pieces, HP.out, getD_byte s k hlt, if_pos HC.out]
          refine ⟨k + 1, by omega, by go_num, by rw [e1]; go_num, ?_, ?_⟩
          · rw [e1]
            simpa using hown1
          · exact Below.grown (hb.alloc hb.size _) hg1 (by simp; have := hb.size; omega) (own_ge hown)
        case measure => simp [intOf]; omega
      · have hq : ((s[k].toNat : Int) == b) = false := by
          rw [HU.out, beq_eq_false_iff_ne]
          intro h
          exact hc (UInt8.toNat_inj.1 (by omega))
        have HC := Lib.hid hc
        clear hc
        go_wp2
        refine ⟨⟨k + 1, by omega, by go_num, ?_, ?_, hb⟩, by simp [intOf]; omega⟩
        · rw [pieces, HP.out, getD_byte s k hlt, if_neg HC.out]
        · rw [pieces, HP.out, getD_byte s k hlt, if_neg HC.out]; exact hown
    · obtain rfl : k = s.size := by omega
      go_wp2_with (at_builtin; refine wpList_append_own _ rfl _ _ 25 rfl w.heap.size 9 i0 (.string ⟨#[]⟩) 1 16 Try.underlying25 hi hz0 hz1 hz2 rfl (by decide) _ _ _ rfl (hown.alloc _) ⟨wr.heap.size, 0, none⟩ 1 1 [.string (s.extract f s.size)] rfl rfl ?c1 ?c2 ?c3 ?c4 ?c5 ?_)
      case c1 => intro j y hy; match j, hy with | 0, hy => (simp at hy; subst hy; simp [Addr.add])
      case c2 => simp [Value.oneCell']
      case c3 => unfold maxLen; have := HS.out; omega
      case c4 => have := HS.out; omega
      case c5 => simp; have := hb.size; omega
      intro v' w1 hown1 hg1 _
      go_wp2
      go_ret
      refine ⟨_, rfl, ?_, ?_⟩
      · have e1 : parts s u = l ++ [s.extract f s.size] := by rw [parts, HP.out]
        rw [e1]
        simpa using hown1
      · exact Below.grown (hb.alloc hb.size _) hg1 (by simp; have := hb.size; omega) (own_ge hown)
end Go.Proofs.Ytjnfdcojccgfoaa
