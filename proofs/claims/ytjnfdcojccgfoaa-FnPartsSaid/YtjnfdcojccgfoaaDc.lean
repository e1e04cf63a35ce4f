/-
  FnParts: joining the parts yields the string.
-/
import Derived.Test.YtjnfdcojccgfoaaDb
import Derived.Test.YtjnfdcojccgfoaaNt
import Derived.Laws.IdiomStrings
import Derived.Test.YtjnfdcojccgfoaaNv
namespace Go.Proofs.Ytjnfdcojccgfoaa
set_option linter.unusedSimpArgs false
set_option linter.unusedVariables false
set_option linter.unnecessarySimpa false
open Go.RowKit
def joinN (ps : List ByteArray) (u : UInt8) : Nat → ByteArray
  | 0 => ⟨#[]⟩
  | k + 1 => (if k = 0 then ⟨#[]⟩ else joinN ps u k ++ ⟨#[u]⟩) ++ ps.getD k ⟨#[]⟩
theorem joinL_snoc (b : UInt8) : ∀ (l : List (List UInt8)) (x : List UInt8), l ≠ [] → joinL b (l ++ [x]) = joinL b l ++ b :: x
  | [], _, h => absurd rfl h
  | [y], x, _ => by simp [joinL]
  | y :: z :: r, x, _ => by
    have := joinL_snoc b (z :: r) x (by simp)
    simp only [List.cons_append, joinL] at this ⊢
    rw [this]; simp
theorem joinN_list (ps : List ByteArray) (u : UInt8) : ∀ k, k ≤ ps.length → (joinN ps u k).data.toList = joinL u ((ps.take k).map fun p => p.data.toList)
  | 0, _ => by simp [joinN, joinL]
  | k + 1, h => by
    have ih := joinN_list ps u k (by omega)
    have hk : ps[k]? = some ps[k] := List.getElem?_eq_getElem (by omega)
    have ht : ps.take (k + 1) = ps.take k ++ [ps[k]] := by rw [List.take_add_one, hk]; rfl
    have hg : ps.getD k ⟨#[]⟩ = ps[k] := by simp [List.getD, hk]
    rw [ht, List.map_append, joinN, hg]
    by_cases h0 : k = 0
    · subst h0; simp [joinL, append_list]
    · rw [if_neg h0, List.map_singleton, joinL_snoc _ _ _ (by
        intro e
        have := congrArg List.length e
        simp only [List.length_map, List.length_take, List.length_nil] at this
        omega), append_list, append_list, ih]
      simp
theorem joinN_all (s : ByteArray) (u : UInt8) : joinN (parts s u) u (parts s u).length = s := by
  have h := joinN_list (parts s u) u (parts s u).length (Nat.le_refl _)
  rw [List.take_length, parts_split, join_splitL] at h
  have := congrArg List.toArray h
  cases s
  generalize joinN _ _ _ = z at *
  cases z
  simpa using this
theorem getD_size (s : ByteArray) (u : UInt8) (k : Nat) : ((parts s u).getD k ⟨#[]⟩).size ≤ s.size := by
  rw [List.getD_eq_getElem?_getD]
  cases h : (parts s u)[k]? with
  | none => exact Nat.zero_le _
  | some p => exact parts_size s u p (List.mem_of_getElem? h)
theorem joinN_size (s : ByteArray) (u : UInt8) (hs : s.size ≤ 5) : ∀ k, (joinN (parts s u) u k).size ≤ 6 * k
  | 0 => by show 0 ≤ _; omega
  | k + 1 => by
    have h := joinN_size s u hs k
    have h1 := getD_size s u k
    have h2 : (⟨#[u]⟩ : ByteArray).size = 1 := rfl
    have h3 : (⟨#[]⟩ : ByteArray).size = 0 := rfl
    unfold joinN
    split <;> simp only [ByteArray.size_append] <;> omega
theorem parts_pos (s : ByteArray) (u : UInt8) : 1 ≤ (parts s u).length := by unfold parts; simp
theorem parts_le (s : ByteArray) (u : UInt8) : (parts s u).length ≤ s.size + 1 := by
  have := (pieces_le s u s.size).1
  unfold parts; simp; omega

set_option maxHeartbeats 4000000 in
theorem law_parts_go (A : Option Addr) (n c : Nat) (w : World) (hn : n ≤ 1048576) (h : ByIn w A n) :
    Calls Try.prog 3 #[.slice A n c] w fun e w' => e = .returned (.bool true) ∧ Below w.heap.size w w' := by
  have HB := Lib.hid h
  have HN := Lib.hid hn
  have hn' : ¬ (1048576 : Int) < n := by omega
  clear h hn
  go_enter Try.func3, Try.ntmps3
  go_wp2_with fail
  refine (drawParts_any A n c _ HN.out HB.out).mono ?_
  rintro e w1 ⟨s, u, rfl, hsz, hu, hb1⟩
  have hs1 := hb1.size
  (try simp at hs1)
  obtain ⟨U, rfl⟩ : ∃ U : UInt8, u = U.toNat := by
    rcases hu with rfl | rfl | rfl
    · exact ⟨32, rfl⟩
    · exact ⟨47, rfl⟩
    · exact ⟨97, rfl⟩
  clear hu
  have HS := Lib.hid hsz
  have hpl := parts_le s U
  have hpp := parts_pos s U
  have HJ := Lib.hid (joinN_all s U)
  go_wp2_with fail
  refine (parts_any s _ U rfl _ (by have := HS.out; omega)).mono ?_
  rintro e w2 ⟨v2, rfl, own2, hb2⟩
  have hs2 := hb2.size
  (try simp at hs2)
  obtain ⟨A2, c2, rfl, rd2⟩ := own_rd own2
  have RD2 := Lib.hid rd2
  have HL2 := Lib.hid (own_blk own2)
  clear rd2 own2
  go_wp2_with fail
  refine (sparts_any s _ U rfl _ (by have := HS.out; omega)).mono ?_
  rintro e w3 ⟨v3, rfl, own3, hb3⟩
  have hs3 := hb3.size
  (try simp at hs3)
  obtain ⟨A3, c3, rfl, rd3⟩ := own_rd own3
  clear rd3 own3
  generalize hM : (parts s U).length = M at *
  have HM := Lib.hid hM
  clear hM
  go_wp2
  go_loopw [6, 29] (fun t i wr => ∃ k : Nat, k ≤ M ∧ i = .int .i64 k ∧ t = .string (joinN (parts s U) U k) ∧ Below w3.heap.size w3 wr) (fun _ i _ => M - (intOf i).toNat)
  case atStart => exact ⟨0, Nat.zero_le _, rfl, rfl, Below.refl _ _⟩
  case round =>
    obtain ⟨k, hk, rfl, rfl, hbw⟩ := hrel
    have hjs := joinN_size s U HS.out k
    by_cases hlt : k < M
    · have hlt' : (k : Int) < M := by omega
      obtain ⟨g, x, rfl, hx, hc⟩ := RD2.out.at_ hlt
      rw [List.getElem?_map] at hx
      obtain ⟨p, hp, rfl⟩ := Option.map_eq_some_iff.1 hx
      have D := (hbw.cell (p := ⟨g, k, none⟩) (by have := HL2.out g rfl; have := hb3.size; simp only; omega)).trans ((hb3.cell (p := ⟨g, k, none⟩) (HL2.out g rfl)).trans hc)
      have hps : p.size ≤ s.size := parts_size s U p (List.mem_of_getElem? hp)
      have hg0 : (parts s U).getD k ⟨#[]⟩ = p := by simp [List.getD, hp]
      have HJK : Hid (joinN (parts s U) U (k + 1) = (if k = 0 then ⟨#[]⟩ else joinN (parts s U) U k ++ ⟨#[U]⟩) ++ p) := Lib.hid (by rw [joinN, hg0])
      clear hx hp hg0
      by_cases h0 : k = 0
      · subst h0
        go_wp2
        refine ⟨⟨1, by omega, rfl, ?_, hbw⟩, by simp [intOf]; omega⟩
        rw [HJK.out]; rfl
      · have h0' : ¬ ((k : Int) = 0) := by omega
        have h00 : (0 : Int) < k := by omega
        have kc : ∀ W : World, W.cell? ⟨wr.heap.size, 0, none⟩ = some (.int .u8 (U.toNat : Int)) → (convert 22 9 (.slice (some ⟨wr.heap.size, 0, none⟩) 1 1)).run Try.prog W = .ok (.string ⟨#[U]⟩) W := fun W hW =>
          run_convert_bytes_back (P := Try.prog) W 22 9 5 ⟨wr.heap.size, 0, none⟩ 1 [U] Try.underlying22 Try.underlying5 Try.underlying9 (fun j hj => by
            have hj0 : j = 0 := by simpa using hj
            subst hj0
            simpa [Addr.add] using hW)
        have hz1 : (⟨#[U]⟩ : ByteArray).size = 1 := rfl
        have hq1 : ¬ 9223372036854775807 < (joinN (parts s U) U k).size + 1 := by omega
        have hq2 : ¬ 9223372036854775807 < (joinN (parts s U) U k).size + 1 + p.size := by omega
        go_wp2
        refine ⟨⟨k + 1, by omega, by go_num, ?_, (by repeat (first | exact Below.refl _ _ | assumption | (refine bstep ?_ (below_drewN _ _)) | exact bstep (by assumption) (by assumption) | (refine bstep ?_ (below_alloc _ _)) | (refine bstep ?_ (by assumption)) | (refine Below.setCell ?_ (by simp <;> omega) _) | refine Below.drew ?_))⟩, by simp [intOf]; omega⟩
        rw [HJK.out, if_neg h0]
    · have hk9 : k = M := by omega
      have hlt' : ¬ (k : Int) < M := by omega
      subst hk9
      have HE : Hid (joinN (parts s U) U k = s) := HJ
      rw [HE.out]
      have hM0 : (0 : Int) < k := by omega
      go_wp2
      go_ret
      refine ⟨ret_bool ?_, (by repeat (first | exact Below.refl _ _ | assumption | (refine bstep ?_ (below_drewN _ _)) | exact bstep (by assumption) (by assumption) | (refine bstep ?_ (below_alloc _ _)) | (refine bstep ?_ (by assumption)) | (refine Below.setCell ?_ (by simp <;> omega) _) | refine Below.drew ?_))⟩
      simp [HE.out]; omega
theorem law_parts (A : Option Addr) (n c : Nat) (w : World) (hn : n ≤ maxLen) (h : ByIn w A n) :
    Calls Try.prog 3 #[.slice A n c] w fun e w' => e = .returned (.bool true) ∧ Below w.heap.size w w' := by
  by_cases hs : n ≤ 1048576
  · exact law_parts_go A n c w hs h
  · have hs' : (1048576 : Int) < n := by omega
    unfold maxLen at hn
    go_enter Try.func3, Try.ntmps3
    go_wp2
    go_ret
    exact ⟨rfl, Below.refl _ _⟩
end Go.Proofs.Ytjnfdcojccgfoaa
