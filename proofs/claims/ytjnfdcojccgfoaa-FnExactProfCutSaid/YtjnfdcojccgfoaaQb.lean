/-
  Contracts of ProfTimes.
-/
import Derived.Test.YtjnfdcojccgfoaaQa
import Derived.Test.YtjnfdcojccgfoaaPi
import Derived.Test.YtjnfdcojccgfoaaTb
namespace Go.Proofs.Ytjnfdcojccgfoaa
set_option linter.unusedSimpArgs false
set_option linter.unusedVariables false
set_option linter.unnecessarySimpa false
open Go.RowKit
def tmsV (ps : List Q) : List Int := if profOkB ps then ps.map (·.t) else []
theorem ints_snoc (l : List Int) (x : Int) : ints (l ++ [x]) = ints l ++ [.int .i64 x] := by simp [ints]
theorem ints_len (l : List Int) : (ints l).length = l.length := by simp [ints]
theorem take_snoc' {α : Type} {l : List α} {k : Nat} {x : α} (h : l[k]? = some x) : l.take (k + 1) = l.take k ++ [x] := by rw [List.take_add_one, h]; rfl

set_option maxHeartbeats 1000000 in
theorem profTimes_any_no (A : Option Addr) (n c : Nat) (ps : List Q) (w : World) (hn : n ≤ 1048576) (hr : Rd w A n 4 (flat ps)) (hl : ∀ g, A = some ⟨g, 0, none⟩ → g < w.heap.size) (h : profOkB ps = false) :
    Calls Try.prog 59 #[.agg #[.slice A n c]] w fun e w' => ∃ u, e = .returned u ∧ w'.ownsRow w.heap.size 3 1 u (tmsV ps).length (ints (tmsV ps)) ∧ Below w.heap.size w w' := by
  have hpl : ps.length = n := by have := hr.1; rw [flat_len] at this; omega
  have hm : n ≤ 9223372036854775807 := by omega
  have HN := Lib.hid hn
  have HR := Lib.hid hr
  have HL := Lib.hid hl
  have HP := Lib.hid hpl
  clear hn hr hl hpl
  have hF : tmsV ps = [] := by unfold tmsV; rw [h]; rfl
  have HF := Lib.hid hF
  clear hF
  go_enter Try.func59, Try.ntmps59
  go_wp2_with fail
  refine (profOk_any A n c ps _ HN.out (HR.out.below HL.out (by repeat (first | exact Below.refl _ _ | assumption | (refine bstep ?_ (below_drewN _ _)) | exact bstep (by assumption) (by assumption) | (refine bstep ?_ (below_alloc _ _)) | (refine bstep ?_ (by assumption)) | (refine Below.setCell ?_ (by simp <;> omega) _) | refine Below.drew ?_))) (lt_below HL.out (by repeat (first | exact Below.refl _ _ | assumption | (refine bstep ?_ (below_drewN _ _)) | exact bstep (by assumption) (by assumption) | (refine bstep ?_ (below_alloc _ _)) | (refine bstep ?_ (by assumption)) | (refine Below.setCell ?_ (by simp <;> omega) _) | refine Below.drew ?_)))).mono ?_
  rintro e w1 ⟨rfl, hb1⟩
  have hs1 := hb1.size
  (try simp at hs1)
  have hy10 : w.heap.size < w1.heap.size := by omega
  have hk10 := fun o => hb1.cell (p := ⟨w.heap.size, o, none⟩) (by first | omega | (simp <;> omega))
  have hg10 := fun o => hb1.frozen (p := ⟨w.heap.size, o, none⟩) (by first | omega | (simp <;> omega))
  rw [h]
  go_wp2
  go_ret
  rw [HF.out]
  exact ⟨_, rfl, own_nil _ _ _ _, (by repeat (first | exact Below.refl _ _ | assumption | (refine bstep ?_ (below_drewN _ _)) | exact bstep (by assumption) (by assumption) | (refine bstep ?_ (below_alloc _ _)) | (refine bstep ?_ (by assumption)) | (refine Below.setCell ?_ (by simp <;> omega) _) | refine Below.drew ?_))⟩

set_option maxHeartbeats 2000000 in
theorem profTimes_any_yes (A : Option Addr) (n c : Nat) (ps : List Q) (w : World) (hn : n ≤ 1048576) (hr : Rd w A n 4 (flat ps)) (hl : ∀ g, A = some ⟨g, 0, none⟩ → g < w.heap.size) (h : profOkB ps = true) :
    Calls Try.prog 59 #[.agg #[.slice A n c]] w fun e w' => ∃ u, e = .returned u ∧ w'.ownsRow w.heap.size 3 1 u (tmsV ps).length (ints (tmsV ps)) ∧ Below w.heap.size w w' := by
  obtain ⟨i0, hi, hz0, hz1, hz2⟩ := info_parts infoI
  have hpl : ps.length = n := by have := hr.1; rw [flat_len] at this; omega
  have hm : n ≤ 9223372036854775807 := by omega
  have HN := Lib.hid hn
  have HR := Lib.hid hr
  have HL := Lib.hid hl
  have HP := Lib.hid hpl
  clear hn hr hl hpl
  have hF : tmsV ps = ps.map (·.t) := by unfold tmsV; rw [h]; rfl
  have HF := Lib.hid hF
  clear hF
  go_enter Try.func59, Try.ntmps59
  go_wp2_with fail
  refine (profOk_any A n c ps _ HN.out (HR.out.below HL.out (by repeat (first | exact Below.refl _ _ | assumption | (refine bstep ?_ (below_drewN _ _)) | exact bstep (by assumption) (by assumption) | (refine bstep ?_ (below_alloc _ _)) | (refine bstep ?_ (by assumption)) | (refine Below.setCell ?_ (by simp <;> omega) _) | refine Below.drew ?_))) (lt_below HL.out (by repeat (first | exact Below.refl _ _ | assumption | (refine bstep ?_ (below_drewN _ _)) | exact bstep (by assumption) (by assumption) | (refine bstep ?_ (below_alloc _ _)) | (refine bstep ?_ (by assumption)) | (refine Below.setCell ?_ (by simp <;> omega) _) | refine Below.drew ?_)))).mono ?_
  rintro e w1 ⟨rfl, hb1⟩
  have hs1 := hb1.size
  (try simp at hs1)
  have hy10 : w.heap.size < w1.heap.size := by omega
  have hk10 := fun o => hb1.cell (p := ⟨w.heap.size, o, none⟩) (by first | omega | (simp <;> omega))
  have hg10 := fun o => hb1.frozen (p := ⟨w.heap.size, o, none⟩) (by first | omega | (simp <;> omega))
  rw [h]
  go_wp2
  go_loopw [3, 13] (fun v i wr => ∃ k : Nat, k ≤ n ∧ i = .int .i64 k ∧ wr.ownsRow (w.heap.size + 1) 3 1 v ((ps.take k).map (·.t)).length (ints ((ps.take k).map (·.t))) ∧ Below w.heap.size w wr ∧ w.heap.size + 1 ≤ wr.heap.size ∧ wr.cell? ⟨w.heap.size, 0, none⟩ = some (.slice A n c)) (fun _ i _ => n - (intOf i).toNat)
  case atStart =>
    refine ⟨0, Nat.zero_le _, rfl, ?_, (by repeat (first | exact Below.refl _ _ | assumption | (refine bstep ?_ (below_drewN _ _)) | exact bstep (by assumption) (by assumption) | (refine bstep ?_ (below_alloc _ _)) | (refine bstep ?_ (by assumption)) | (refine Below.setCell ?_ (by simp <;> omega) _) | refine Below.drew ?_)), ?_, ?_⟩
    · simp only [List.take_zero, List.map_nil]
      exact own_lit (cs := []) (heap_at _ rfl) rfl (by decide) (by omega)
    · first | omega | (simp <;> omega)
    · simp [go_sem, *, World.cell?_alloc_some]
  case round =>
    obtain ⟨k, hk, rfl, hown, hbw, hsz, hbox⟩ := hrel
    by_cases hlt : k < n
    · have hlt' : (k : Int) < n := by omega
      obtain ⟨g, q, rfl, hq, d0, d1, d2, d3⟩ := HR.out.q hlt
      have hg := HL.out g rfl
      have D0 := (hbw.cell (p := ⟨g, k * 4, none⟩) hg).trans d0
      have D1 := (hbw.cell (p := ⟨g, k * 4 + 1, none⟩) hg).trans d1
      have D2 := (hbw.cell (p := ⟨g, k * 4 + 2, none⟩) hg).trans d2
      have D3 := (hbw.cell (p := ⟨g, k * 4 + 3, none⟩) hg).trans d3
      have hgr : g < wr.heap.size := Nat.lt_of_lt_of_le hg hbw.size
      have HS := Lib.hid (take_snoc' hq)
      have HB := Lib.hid hbw
      have hlen : ((ps.take k).map (·.t)).length ≤ n := by simp; omega
      have HLE := Lib.hid hlen
      clear d0 d1 d2 d3 hq hbw hlen
      go_wp2_with (at_builtin; refine wpList_append_own _ rfl _ _ 66 rfl (w.heap.size + 1) 3 i0 (.int .i64 0) 1 8 Try.underlying66 hi hz0 hz1 hz2 rfl (by decide) _ _ _ rfl ((hown.alloc _).alloc _) ⟨wr.heap.size + 1, 0, none⟩ 1 1 [.int .i64 q.t] rfl rfl ?c1 ?c2 ?c3 ?c4 ?c5 ?_)
      try case c1 =>
        intro j y hy
        match j, hy with
        | 0, hy => (simp at hy; subst hy; simp [Addr.add])
      try case c2 => simp [Value.oneCell']
      case c3 => unfold maxLen; have := HN.out; have := HLE.out; omega
      case c4 => have := HN.out; have := HLE.out; omega
      try case c5 => first | omega | (simp <;> omega)
      intro v' w1 hown1 hg1 _
      have hgb := hg1.block w.heap.size (by simp <;> omega) (fun e => by have := own_ge hown _ e.symm; omega)
      go_wp2
      go_roundw
      case rel =>
        refine ⟨k + 1, by omega, by go_num, ?_, ?_, ?_, ?_⟩
        · rw [HS.out, List.map_append, List.map_singleton, ints_snoc, List.length_append]; simpa using hown1
        · exact Below.grown ((HB.out.alloc HB.out.size _).alloc (by simp; have := HB.out.size; omega) _) hg1 (by simp; have := HB.out.size; omega) (fun k hk => by have := own_ge hown k hk; omega)
        · have := hg1.size; simp at this; omega
        · rw [World.cell?_of_block hgb]; simp [hbox, World.cell?_alloc_some]
      case measure => simp [intOf]; omega
    · have hlt' : ¬ (k : Int) < n := by omega
      have hk9 : ps.take k = ps := take_all (by have := HP.out; omega)
      rw [hk9] at hown
      have HO := Lib.hid hown
      have HB := Lib.hid hbw
      clear hk9 hown hbw
      go_wp2
      go_ret
      rw [HF.out]
      exact ⟨_, rfl, own_mono HO.out (by omega), HB.out⟩
theorem profTimes_any (A : Option Addr) (n c : Nat) (ps : List Q) (w : World) (hn : n ≤ 1048576) (hr : Rd w A n 4 (flat ps)) (hl : ∀ g, A = some ⟨g, 0, none⟩ → g < w.heap.size) :
    Calls Try.prog 59 #[.agg #[.slice A n c]] w fun e w' => ∃ u, e = .returned u ∧ w'.ownsRow w.heap.size 3 1 u (tmsV ps).length (ints (tmsV ps)) ∧ Below w.heap.size w w' := by
  cases h : profOkB ps
  · exact profTimes_any_no A n c ps w hn hr hl h
  · exact profTimes_any_yes A n c ps w hn hr hl h

set_option maxHeartbeats 1000000 in
theorem sprofTimes_any_no (A : Option Addr) (n c : Nat) (ps : List Q) (w : World) (hn : n ≤ 1048576) (hr : Rd w A n 4 (flat ps)) (hl : ∀ g, A = some ⟨g, 0, none⟩ → g < w.heap.size) (h : profOkB ps = false) :
    Calls Try.prog 58 #[.agg #[.slice A n c]] w fun e w' => ∃ u, e = .returned u ∧ w'.ownsRow w.heap.size 3 1 u (tmsV ps).length (ints (tmsV ps)) ∧ Below w.heap.size w w' := by
  have hpl : ps.length = n := by have := hr.1; rw [flat_len] at this; omega
  have hm : n ≤ 9223372036854775807 := by omega
  have HN := Lib.hid hn
  have HR := Lib.hid hr
  have HL := Lib.hid hl
  have HP := Lib.hid hpl
  clear hn hr hl hpl
  have hF : tmsV ps = [] := by unfold tmsV; rw [h]; rfl
  have HF := Lib.hid hF
  clear hF
  go_enter Try.func58, Try.ntmps58
  go_wp2_with fail
  refine (sprofOk_any A n c ps _ HN.out (HR.out.below HL.out (by repeat (first | exact Below.refl _ _ | assumption | (refine bstep ?_ (below_drewN _ _)) | exact bstep (by assumption) (by assumption) | (refine bstep ?_ (below_alloc _ _)) | (refine bstep ?_ (by assumption)) | (refine Below.setCell ?_ (by simp <;> omega) _) | refine Below.drew ?_))) (lt_below HL.out (by repeat (first | exact Below.refl _ _ | assumption | (refine bstep ?_ (below_drewN _ _)) | exact bstep (by assumption) (by assumption) | (refine bstep ?_ (below_alloc _ _)) | (refine bstep ?_ (by assumption)) | (refine Below.setCell ?_ (by simp <;> omega) _) | refine Below.drew ?_)))).mono ?_
  rintro e w1 ⟨rfl, hb1⟩
  have hs1 := hb1.size
  (try simp at hs1)
  have hy10 : w.heap.size < w1.heap.size := by omega
  have hk10 := fun o => hb1.cell (p := ⟨w.heap.size, o, none⟩) (by first | omega | (simp <;> omega))
  have hg10 := fun o => hb1.frozen (p := ⟨w.heap.size, o, none⟩) (by first | omega | (simp <;> omega))
  have hy11 : w.heap.size + 1 < w1.heap.size := by omega
  have hk11 := fun o => hb1.cell (p := ⟨w.heap.size + 1, o, none⟩) (by first | omega | (simp <;> omega))
  have hg11 := fun o => hb1.frozen (p := ⟨w.heap.size + 1, o, none⟩) (by first | omega | (simp <;> omega))
  rw [h]
  go_wp2
  go_ret
  rw [HF.out]
  refine ⟨_, rfl, own_lit (cs := []) ?_ rfl (by decide) (by omega), (by repeat (first | exact Below.refl _ _ | assumption | (refine bstep ?_ (below_drewN _ _)) | exact bstep (by assumption) (by assumption) | (refine bstep ?_ (below_alloc _ _)) | (refine bstep ?_ (by assumption)) | (refine Below.setCell ?_ (by simp <;> omega) _) | refine Below.drew ?_))⟩
  exact (hb1.block _ (by simp)).trans (heap_at _ (by simp))

set_option maxHeartbeats 2000000 in
theorem sprofTimes_any_yes (A : Option Addr) (n c : Nat) (ps : List Q) (w : World) (hn : n ≤ 1048576) (hr : Rd w A n 4 (flat ps)) (hl : ∀ g, A = some ⟨g, 0, none⟩ → g < w.heap.size) (h : profOkB ps = true) :
    Calls Try.prog 58 #[.agg #[.slice A n c]] w fun e w' => ∃ u, e = .returned u ∧ w'.ownsRow w.heap.size 3 1 u (tmsV ps).length (ints (tmsV ps)) ∧ Below w.heap.size w w' := by
  obtain ⟨i0, hi, hz0, hz1, hz2⟩ := info_parts infoI
  have hpl : ps.length = n := by have := hr.1; rw [flat_len] at this; omega
  have hm : n ≤ 9223372036854775807 := by omega
  have HN := Lib.hid hn
  have HR := Lib.hid hr
  have HL := Lib.hid hl
  have HP := Lib.hid hpl
  clear hn hr hl hpl
  have hF : tmsV ps = ps.map (·.t) := by unfold tmsV; rw [h]; rfl
  have HF := Lib.hid hF
  clear hF
  go_enter Try.func58, Try.ntmps58
  go_wp2_with fail
  refine (sprofOk_any A n c ps _ HN.out (HR.out.below HL.out (by repeat (first | exact Below.refl _ _ | assumption | (refine bstep ?_ (below_drewN _ _)) | exact bstep (by assumption) (by assumption) | (refine bstep ?_ (below_alloc _ _)) | (refine bstep ?_ (by assumption)) | (refine Below.setCell ?_ (by simp <;> omega) _) | refine Below.drew ?_))) (lt_below HL.out (by repeat (first | exact Below.refl _ _ | assumption | (refine bstep ?_ (below_drewN _ _)) | exact bstep (by assumption) (by assumption) | (refine bstep ?_ (below_alloc _ _)) | (refine bstep ?_ (by assumption)) | (refine Below.setCell ?_ (by simp <;> omega) _) | refine Below.drew ?_)))).mono ?_
  rintro e w1 ⟨rfl, hb1⟩
  have hs1 := hb1.size
  (try simp at hs1)
  have hy10 : w.heap.size < w1.heap.size := by omega
  have hk10 := fun o => hb1.cell (p := ⟨w.heap.size, o, none⟩) (by first | omega | (simp <;> omega))
  have hg10 := fun o => hb1.frozen (p := ⟨w.heap.size, o, none⟩) (by first | omega | (simp <;> omega))
  have hy11 : w.heap.size + 1 < w1.heap.size := by omega
  have hk11 := fun o => hb1.cell (p := ⟨w.heap.size + 1, o, none⟩) (by first | omega | (simp <;> omega))
  have hg11 := fun o => hb1.frozen (p := ⟨w.heap.size + 1, o, none⟩) (by first | omega | (simp <;> omega))
  rw [h]
  go_wp2
  go_loopw [3, 14] (fun v i wr => ∃ k : Nat, k ≤ n ∧ i = .int .i64 k ∧ wr.ownsRow (w.heap.size + 1) 3 1 v ((ps.take k).map (·.t)).length (ints ((ps.take k).map (·.t))) ∧ Below w.heap.size w wr ∧ w.heap.size + 1 ≤ wr.heap.size ∧ wr.cell? ⟨w.heap.size, 0, none⟩ = some (.slice A n c)) (fun _ i _ => n - (intOf i).toNat)
  case atStart =>
    refine ⟨0, Nat.zero_le _, rfl, ?_, (by repeat (first | exact Below.refl _ _ | assumption | (refine bstep ?_ (below_drewN _ _)) | exact bstep (by assumption) (by assumption) | (refine bstep ?_ (below_alloc _ _)) | (refine bstep ?_ (by assumption)) | (refine Below.setCell ?_ (by simp <;> omega) _) | refine Below.drew ?_)), ?_, ?_⟩
    · simp only [List.take_zero, List.map_nil]
      exact own_lit (cs := []) ((hb1.block _ (by simp)).trans (heap_at _ (by simp))) rfl (by decide) (by omega)
    · first | omega | (simp <;> omega)
    · simp [go_sem, *, World.cell?_alloc_some]
  case round =>
    obtain ⟨k, hk, rfl, hown, hbw, hsz, hbox⟩ := hrel
    by_cases hlt : k < n
    · have hlt' : (k : Int) < n := by omega
      obtain ⟨g, q, rfl, hq, d0, d1, d2, d3⟩ := HR.out.q hlt
      have hg := HL.out g rfl
      have D0 := (hbw.cell (p := ⟨g, k * 4, none⟩) hg).trans d0
      have D1 := (hbw.cell (p := ⟨g, k * 4 + 1, none⟩) hg).trans d1
      have D2 := (hbw.cell (p := ⟨g, k * 4 + 2, none⟩) hg).trans d2
      have D3 := (hbw.cell (p := ⟨g, k * 4 + 3, none⟩) hg).trans d3
      have hgr : g < wr.heap.size := Nat.lt_of_lt_of_le hg hbw.size
      have HS := Lib.hid (take_snoc' hq)
      have HB := Lib.hid hbw
      have hlen : ((ps.take k).map (·.t)).length ≤ n := by simp; omega
      have HLE := Lib.hid hlen
      clear d0 d1 d2 d3 hq hbw hlen
      go_wp2_with (at_builtin; refine wpList_append_own _ rfl _ _ 66 rfl (w.heap.size + 1) 3 i0 (.int .i64 0) 1 8 Try.underlying66 hi hz0 hz1 hz2 rfl (by decide) _ _ _ rfl ((hown.alloc _).alloc _) ⟨wr.heap.size + 1, 0, none⟩ 1 1 [.int .i64 q.t] rfl rfl ?c1 ?c2 ?c3 ?c4 ?c5 ?_)
      try case c1 =>
        intro j y hy
        match j, hy with
        | 0, hy => (simp at hy; subst hy; simp [Addr.add])
      try case c2 => simp [Value.oneCell']
      case c3 => unfold maxLen; have := HN.out; have := HLE.out; omega
      case c4 => have := HN.out; have := HLE.out; omega
      try case c5 => first | omega | (simp <;> omega)
      intro v' w1 hown1 hg1 _
      have hgb := hg1.block w.heap.size (by simp <;> omega) (fun e => by have := own_ge hown _ e.symm; omega)
      go_wp2
      go_roundw
      case rel =>
        refine ⟨k + 1, by omega, by go_num, ?_, ?_, ?_, ?_⟩
        · rw [HS.out, List.map_append, List.map_singleton, ints_snoc, List.length_append]; simpa using hown1
        · exact Below.grown ((HB.out.alloc HB.out.size _).alloc (by simp; have := HB.out.size; omega) _) hg1 (by simp; have := HB.out.size; omega) (fun k hk => by have := own_ge hown k hk; omega)
        · have := hg1.size; simp at this; omega
        · rw [World.cell?_of_block hgb]; simp [hbox, World.cell?_alloc_some]
      case measure => simp [intOf]; omega
    · have hlt' : ¬ (k : Int) < n := by omega
      have hk9 : ps.take k = ps := take_all (by have := HP.out; omega)
      rw [hk9] at hown
      have HO := Lib.hid hown
      have HB := Lib.hid hbw
      clear hk9 hown hbw
      go_wp2
      go_ret
      rw [HF.out]
      exact ⟨_, rfl, own_mono HO.out (by omega), HB.out⟩
theorem sprofTimes_any (A : Option Addr) (n c : Nat) (ps : List Q) (w : World) (hn : n ≤ 1048576) (hr : Rd w A n 4 (flat ps)) (hl : ∀ g, A = some ⟨g, 0, none⟩ → g < w.heap.size) :
    Calls Try.prog 58 #[.agg #[.slice A n c]] w fun e w' => ∃ u, e = .returned u ∧ w'.ownsRow w.heap.size 3 1 u (tmsV ps).length (ints (tmsV ps)) ∧ Below w.heap.size w w' := by
  cases h : profOkB ps
  · exact sprofTimes_any_no A n c ps w hn hr hl h
  · exact sprofTimes_any_yes A n c ps w hn hr hl h
end Go.Proofs.Ytjnfdcojccgfoaa
