import Derived.Test.YtkoephlichepeaaNr
namespace Go.Proofs.Ytkoephlichepeaa
open Go.RowKit
set_option maxHeartbeats 1000000 in
theorem heldStrS_any (A : Option Addr) (n c k0 : Nat) (w : World) (hn : n ≤ 1048577) (hk0 : 0 < k0) (hk1 : k0 ≤ 1000000) (hr : Rd w A n 1 (marks k0 n)) (hlt : ∀ g, A = some ⟨g, 0, none⟩ → g < w.heap.size) :
    Calls Try.prog 40 #[.slice A n c, .int .i64 k0] w fun e w' => e = .returned (.int .i64 ((k0 + n : Nat) : Int)) ∧ Below w.heap.size w w' := by
  have hm : n ≤ 9223372036854775807 := by omega
  have hkm : (k0 : Int) + n ≤ 9223372036854775807 := by omega
  have HN := Lib.hid hn
  have HK := Lib.hid hk1
  have HR := Lib.hid hr
  have HL := Lib.hid hlt
  clear hn hk1 hr hlt
  go_enter Try.func40, Try.ntmps40
  go_wp2
  go_loopw [1, 5] (fun q i wr => ∃ k : Nat, k ≤ n ∧ i = .int .i64 k ∧ q = .int .i64 ((k0 + k : Nat) : Int) ∧ Below w.heap.size w wr) (fun _ i _ => n - (intOf i).toNat)
  case atStart => exact ⟨0, Nat.zero_le _, rfl, rfl, Below.refl _ _⟩
  case round =>
    obtain ⟨k, hk, rfl, rfl, hb⟩ := hrel
    by_cases hlt : k < n
    · obtain ⟨g, u, rfl, hu, hc⟩ := HR.out.at_ hlt
      rw [marks_get hlt] at hu
      obtain rfl := Option.some.inj hu
      have hgl : g < w.heap.size := HL.out g rfl
      have hcr : wr.cell? ⟨g, k, none⟩ = some (.string (markB (k0 + k))) := (hb.cell (p := ⟨g, k, none⟩) hgl).trans hc
      have hgr : g < wr.heap.size := Nat.lt_of_lt_of_le hgl hb.size
      clear hu hc HR HL
      have hlt' : (k : Int) < n := by omega
      have hlt2 : (k0 : Int) + k + 1 ≤ 9223372036854775807 := by omega
      go_wp2
      go_region_held3 (fun w' => w'.cell? ⟨g, k, none⟩ = some (.string (markB (k0 + k)))) (simp [go_sem, *]) (first | (go_at_call 49; rw [show ((k0 : Int) + (k : Int)) = ((k0 + k : Nat) : Int) from by simp]; refine (markText_any (k0 + k) (by omega) (by have := HN.out; have := HK.out; omega) _).mono ?_; rintro e w1 ⟨rfl, hb1⟩; have hc1 := hb1.cell (p := ⟨g, k, none⟩) (by simpa using hgr)))
      all_goals go_wp2
      all_goals exact ⟨⟨k + 1, by omega, by go_num, by go_num, hb.drew.trans (hb1.mono (by simpa using hb.size))⟩, by simp [intOf]; omega⟩
    · obtain rfl : k = n := by omega
      go_wp2
      go_ret
      exact ⟨by simp, hb⟩

theorem Rd.below {w w' : World} {A : Option Addr} {n size B : Nat} {xs : List Value} (h : Rd w A n size xs) (hlt : ∀ g, A = some ⟨g, 0, none⟩ → g < B) (hb : Below B w w') : Rd w' A n size xs :=
  ⟨h.1, fun hn => by
    obtain ⟨g, rfl, hc⟩ := h.2 hn
    exact ⟨g, rfl, fun j u hj => (hb.cell (p := ⟨g, j, none⟩) (hlt g rfl)).trans (hc j u hj)⟩⟩
theorem own_all {w : World} {lo : Nat} {e : TypeId} {v : Value} {n : Nat} {xs : List Value} (h : w.ownsRow lo e 1 v n xs) : ∃ A c, v = .slice A n c ∧ Rd w A n 1 xs ∧ Wr w lo A n e ∧ (∀ g, A = some ⟨g, 0, none⟩ → g < w.heap.size) := by
  obtain ⟨A, c, rfl, hr⟩ := own_rd h
  obtain ⟨A', c', he, hw⟩ := own_wr h
  injection he with h1 h2 h3
  subst h1
  exact ⟨A, c, rfl, hr, hw, fun g hg => own_lt h g (by rw [hg]; rfl)⟩
theorem parts_len (s : ByteArray) (u : UInt8) : (parts s u).length ≤ s.size + 1 := by
  have := (pieces_le s u s.size).1
  simp [parts]; omega
theorem markStrS_one (A : Option Addr) (n c lo : Nat) (w : World) (hn : n ≤ 1048577) (hlo : lo ≤ w.heap.size) (hw : Wr w lo A n 9) :
    Calls Try.prog 39 #[.slice A n c, .int .i64 1] w fun e w' => e = .returned (.int .i64 (1 + (n : Int))) ∧ Rd w' A n 1 (marks 1 n) ∧ Below lo w w' :=
  (markStrS_any A n c 1 lo w hn (by omega) (by omega) hlo hw).mono fun e w' h => ⟨by rw [h.1]; simp, h.2⟩
theorem heldStrS_one (A : Option Addr) (n c : Nat) (w : World) (hn : n ≤ 1048577) (hr : Rd w A n 1 (marks 1 n)) (hlt : ∀ g, A = some ⟨g, 0, none⟩ → g < w.heap.size) :
    Calls Try.prog 40 #[.slice A n c, .int .i64 1] w fun e w' => e = .returned (.int .i64 (1 + (n : Int))) ∧ Below w.heap.size w w' :=
  (heldStrS_any A n c 1 w hn (by omega) (by omega) hr hlt).mono fun e w' h => ⟨by rw [h.1]; simp, h.2⟩
set_option maxHeartbeats 4000000 in
theorem law_parts_big (s : ByteArray) (b : Int) (w : World) (hm : s.size ≤ 9223372036854775807) (hs : ¬ (s.size : Int) ≤ 1048576) :
    Calls Try.prog 13 #[.string s, .int .u8 b] w fun e w' => e = .returned (.bool true) ∧ Below w.heap.size w w' := by
  have h' : 1048576 < (s.size : Int) := by omega
  clear hs
  go_enter Try.func13, Try.ntmps13
  go_wp2
  go_ret
  exact ⟨rfl, Below.refl _ _⟩
set_option maxHeartbeats 4000000 in
theorem law_parts_small (s : ByteArray) (b : Int) (u : UInt8) (hu : b = u.toNat) (w : World) (hs : s.size ≤ 1048576) :
    Calls Try.prog 13 #[.string s, .int .u8 b] w fun e w' => e = .returned (.bool true) ∧ Below w.heap.size w w' := by
  have h' : (s.size : Int) ≤ 1048576 := by omega
  have hln := parts_len s u
  have HS := Lib.hid hs
  have HU := Lib.hid hu
  have HL := Lib.hid (show (parts s u).length ≤ 1048577 by omega)
  clear hs hu hln
  go_enter Try.func13, Try.ntmps13
  go_wp2_with fail
  refine (sparts_any s b u HU.out _ HS.out).mono ?_
  rintro e w1 ⟨v0, rfl, own0, hb1⟩
  obtain ⟨A0, c0, rfl, rd0, wr0, lt0⟩ := own_all own0
  have R0 := Lib.hid rd0
  have L0 := Lib.hid lt0
  clear own0 rd0 wr0 lt0
  go_wp2_with fail
  refine (parts_any s b u HU.out _ HS.out).mono ?_
  rintro e w2 ⟨v1, rfl, own1, hb2⟩
  obtain ⟨A1, c1, rfl, rd1, wr1, lt1⟩ := own_all own1
  have R1 := Lib.hid rd1
  have W1 := Lib.hid wr1
  have L1 := Lib.hid lt1
  clear own1 rd1 wr1 lt1
  have R02 := Lib.hid (R0.out.below L0.out hb2)
  go_wp2_with fail
  refine (eqStrS_any A1 A0 _ c1 c0 (parts s u) _ HL.out R1.out R02.out).mono ?_
  rintro e w3 ⟨rfl, q3, rfl⟩
  go_wp2_with fail
  refine (markStrS_one A1 _ c1 w1.heap.size _ HL.out (by exact hb2.size) (by exact W1.out)).mono ?_
  rintro e w4 ⟨rfl, rdm, hb4⟩
  have lt4 : ∀ g, A1 = some ⟨g, 0, none⟩ → g < w4.heap.size := fun g hg => Nat.lt_of_lt_of_le (L1.out g hg) hb4.size
  have R4 := Lib.hid rdm
  have L4 := Lib.hid lt4
  clear rdm lt4
  have hnb : (parts s u).length ≤ 9223372036854775806 := by have := HL.out; omega
  go_wp2_with fail
  refine (heldStrS_one A1 _ c1 _ HL.out (by exact R4.out) (by exact L4.out)).mono ?_
  rintro e w5 ⟨rfl, hb5⟩
  go_wp2_with fail
  refine (parts_any s b u HU.out _ HS.out).mono ?_
  rintro e w6 ⟨v2, rfl, own2, hb6⟩
  obtain ⟨A2, c2, rfl, rd2, wr2, lt2⟩ := own_all own2
  have R2 := Lib.hid rd2
  clear own2 rd2 wr2 lt2
  have hb46 := bstep hb5 hb6
  have R06 := Lib.hid ((((R02.out.drewN q3).below L0.out hb4)).below (fun g hg => Nat.lt_of_lt_of_le (L0.out g hg) (Nat.le_trans hb2.size hb4.size)) hb46)
  have R46 := Lib.hid (R4.out.below L4.out hb46)
  have L46 := Lib.hid (fun g hg => Nat.lt_of_lt_of_le (L4.out g hg) hb46.size : ∀ g, A1 = some ⟨g, 0, none⟩ → g < w6.heap.size)
  go_wp2_with fail
  refine (eqStrS_any A2 A0 _ c2 c0 (parts s u) _ HL.out R2.out R06.out).mono ?_
  rintro e w7 ⟨rfl, q7, rfl⟩
  go_wp2_with fail
  refine (heldStrS_one A1 _ c1 _ HL.out (by exact R46.out) (by exact L46.out)).mono ?_
  rintro e w8 ⟨rfl, hb8⟩
  go_wp2_with fail
  go_ret
  refine ⟨rfl, ?_⟩
  have h2 := bstep hb1 hb2
  have h4 : Below w.heap.size w w4 := (h2.trans (below_drewN w2 q3)).trans (hb4.mono hb1.size)
  have h6 := bstep h4 hb46
  exact bstep (h6.trans (below_drewN w6 q7)) hb8
theorem law_parts (s : ByteArray) (b : Int) (hb : (Lit.int .u8 b).wf = true) (hs : s.size ≤ maxLen) (w : World) :
    Calls Try.prog 13 #[.string s, .int .u8 b] w fun e w' => e = .returned (.bool true) ∧ Below w.heap.size w w' := by
  have hr : 0 ≤ b ∧ b ≤ 255 := by simpa [Lit.wf, IntKind.min, IntKind.max, IntKind.signed, IntKind.bits] using hb
  unfold maxLen at hs
  by_cases h : (s.size : Int) ≤ 1048576
  · exact law_parts_small s b (UInt8.ofNat b.toNat) (by simp; omega) w (by omega)
  · exact law_parts_big s b w (by omega) h
end Go.Proofs.Ytkoephlichepeaa
