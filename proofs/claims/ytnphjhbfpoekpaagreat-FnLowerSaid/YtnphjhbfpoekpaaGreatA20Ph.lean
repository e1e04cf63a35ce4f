import Derived.Test.YtnphjhbfpoekpaaGreatA13Ph
import Derived.Test.YtnphjhbfpoekpaaGreatA7Ph
import Derived.Test.YtnphjhbfpoekpaaGreatA8Ph
import Derived.Deep.RegionHeld3
import Derived.Deep.QuietTactic
import Derived.BigQuiet
import Derived.Deep.AppendLies
import Derived.Test.YtnphjhbfpoekpaaGreatA5Ph
import Derived.Test.YtnphjhbfpoekpaaGreatApPh
namespace Go.Proofs.YtnphjhbfpoekpaaGreat
set_option linter.unusedSimpArgs false
set_option linter.unusedVariables false
set_option linter.unnecessarySimpa false
open Go.RowKit
def undrK (ps : List Int) (ns : List Q) (nd : List Int) (s k : Nat) : List Int := undr ps ns (nd.take k) s
theorem undrK_yes {ps : List Int} {ns : List Q} {nd : List Int} {s k : Nat} {x : Int} (hx : nd[k]? = some x) (h : s ∈ up ps (lfN ns x)) : undrK ps ns nd s (k + 1) = undrK ps ns nd s k ++ [x] := by
 unfold undrK undr; rw [zAy hx, List.filter_append]; simp [h]
theorem undrK_no {ps : List Int} {ns : List Q} {nd : List Int} {s k : Nat} {x : Int} (hx : nd[k]? = some x) (h : s ∉ up ps (lfN ns x)) : undrK ps ns nd s (k + 1) = undrK ps ns nd s k := by
 unfold undrK undr; rw [zAy hx, List.filter_append]; simp [h]
theorem undrK_len (ps : List Int) (ns : List Q) (nd : List Int) (s k : Nat) : (undrK ps ns nd s k).length ≤ k := by
 unfold undrK undr
 exact Nat.le_trans (List.length_filter_le _ _) (by rw [List.length_take]; omega)
theorem undrK_all {ps : List Int} {ns : List Q} {nd : List Int} {s k : Nat} (h : nd.length = k) : undrK ps ns nd s k = undr ps ns nd s := by
 unfold undrK; rw [List.take_of_length_le (by omega)]
theorem undr_len (ps : List Int) (ns : List Q) (nd : List Int) (s : Nat) : (undr ps ns nd s).length ≤ nd.length := List.length_filter_le _ _
theorem undr_in {ps : List Int} {ns : List Q} {nd : List Int} {s : Nat} (h : ∀ x ∈ nd, 0 ≤ x ∧ x < ns.length) : ∀ x ∈ undr ps ns nd s, 0 ≤ x ∧ x < ns.length := fun x hx => h x (List.mem_filter.1 hx).1
set_option maxHeartbeats 8000000 in
set_option maxRecDepth 20000 in
theorem under_any (A B : Option Addr) (n c m d : Nat) (ps : List Int) (ns : List Q) (D : Option Addr) (k e : Nat) (nd : List Int) (s : Nat) (w : World) (hn : n ≤ 1048576) (hm : m ≤ 1048576) (hr : Rd w A n 1 (ints ps)) (hq : Rd w B m 4 (flat ns)) (hl : ∀ g, A = some ⟨g, 0, none⟩ → g < w.heap.size) (hl2 : ∀ g, B = some ⟨g, 0, none⟩ → g < w.heap.size) (hk : k ≤ 1048576) (hd : Rd w D k 1 (ints nd)) (hl3 : ∀ g, D = some ⟨g, 0, none⟩ → g < w.heap.size) (htp : topoOkB ps ns = true) (hnd : ∀ x ∈ nd, 0 ≤ x ∧ x < ns.length) :
  Calls Tryz.prog 199 #[.agg #[.slice A n c, .slice B m d], .slice D k e, .int .i64 s] w fun e w' => ∃ v, e = .returned v ∧ w'.ownsRow w.heap.size 3 1 v (undr ps ns nd s).length (ints (undr ps ns nd s)) ∧ Below w.heap.size w w' := by
 have hparok := (topo_parts htp).2.2.2.2.1
 have HO := Lib.hid hparok
 have HT := Lib.hid htp
 have HND := Lib.hid hnd
 clear hparok htp hnd
 have hpl := hr.ilen
 have hql : ns.length = m := by have := hq.1; rw [flat_len] at this; omega
 have hn9 : n ≤ 9223372036854775807 := by omega
 have hm9 : m ≤ 9223372036854775807 := by omega
 have HN := Lib.hid hn
 have HM := Lib.hid hm
 have HR := Lib.hid hr
 have HQ := Lib.hid hq
 have HL := Lib.hid hl
 have HL2 := Lib.hid hl2
 have HP := Lib.hid hpl
 have HQL := Lib.hid hql
 clear hn hm hr hq hl hl2 hpl hql
 have hdl := hd.ilen
 have hk9 : k ≤ 9223372036854775807 := by omega
 have HK := Lib.hid hk
 have HD := Lib.hid hd
 have HL3 := Lib.hid hl3
 have HDL := Lib.hid hdl
 clear hk hd hl3 hdl
 have HF : Hid (undr ps ns nd s = undrK ps ns nd s k) := Lib.hid (undrK_all HDL.out).symm
 go_enter Tryz.func199, Tryz.ntmps199
 go_wp2
 go_loopw [7, 13] (fun v i wr => ∃ (j : Nat) (X : Option Addr) (cx : Nat), j ≤ k ∧ i = .int .i64 j ∧ v = .slice X (undrK ps ns nd s j).length cx ∧ wr.ownsRow (w.heap.size + 1) 3 1 (.slice X (undrK ps ns nd s j).length cx) (undrK ps ns nd s j).length (ints (undrK ps ns nd s j)) ∧ Below w.heap.size w wr ∧ w.heap.size + 1 ≤ wr.heap.size ∧ wr.cell? ⟨w.heap.size, 0, none⟩ = some (.slice A n c) ∧ wr.cell? ⟨w.heap.size, 1, none⟩ = some (.slice B m d)) (fun _ i _ => k - (intOf i).toNat)
 case atStart =>
  refine ⟨0, _, 0, Nat.zero_le _, rfl, rfl, own_lit (cs := []) (zAj _ (by simp)) rfl (by show 0 ≤ maxLen; decide) (by omega), zBe, zOm, ?_, ?_⟩
  ·simp [go_sem, *, World.cell?_alloc_some]
  ·simp [go_sem, *, World.cell?_alloc_some]
 case round =>
  obtain ⟨j, X, cx, hj, rfl, rfl, hown, hbw, hsz, bx0, bx1⟩ := hrel
  have hlen : (undrK ps ns nd s j).length ≤ k := by have := undrK_len ps ns nd s j; omega
  have HLE := Lib.hid hlen
  have HB := Lib.hid hbw
  have HW := Lib.hid hown
  have hy0 : w.heap.size < wr.heap.size := by omega
  clear hlen hbw hown
  by_cases hlt : j < k
  ·have hlt' : (j : Int) < k := by omega
   obtain ⟨gD, x, rfl, hx, cx9⟩ := Rd.int (HD.out.below HL3.out HB.out) hlt
   have hxm := HND.out x (List.mem_of_getElem? hx)
   obtain ⟨q, rfl⟩ : ∃ q : Nat, x = q := ⟨x.toNat, by omega⟩
   have hqm : q < m := by have := HQL.out; omega
   have hqm' : (q : Int) < m := by omega
   obtain ⟨gB, z, rfl, hz, c0, c1, c2, c3⟩ := (HQ.out.below HL2.out HB.out).q hqm
   obtain ⟨hlp, _, q', hq1, hq2, _⟩ := lfN_ok HT.out (x := (q : Int)) (by omega) (by rw [HQL.out]; omega)
   simp only [Int.toNat_natCast] at hq1
   rw [hz] at hq1
   obtain rfl := Option.some.inj hq1
   rw [hq2] at c0
   rw [HP.out] at hlp
   have hgB := zAi HL2.out HB.out gB rfl
   have HX := Lib.hid hx
   obtain ⟨lf, hlf9⟩ : ∃ lf, lf = lfN ns (q : Int) := ⟨_, rfl⟩
   rw [← hlf9] at hlp c0
   have hlf := hlp
   have HLF := Lib.hid hlf9
   have hul : (upI ps lf).length ≤ 1048577 := by
    have h1 := up_len HO.out lf (by rw [HP.out]; omega)
    have h2 := dep_le HO.out lf (by rw [HP.out]; omega)
    have h3 := HN.out
    simp only [upI, List.length_map]; omega
   have HUL := Lib.hid hul
   clear hx hxm hz hq1 hq2 hlf9 hul c1 c2 c3 hlp
   cases hh : hasZ (upI ps lf) (s : Int)
   ·have hnm : s ∉ up ps lf := fun h => by rw [hasZ_up.2 h] at hh; cases hh
    have HE : Hid (undrK ps ns nd s (j + 1) = undrK ps ns nd s j) := Lib.hid (undrK_no HX.out (by rw [← HLF.out]; exact hnm))
    have HHZ := Lib.hid hh
    clear hnm hh
    go_wp2_with fail
    go_region_held3 (fun w' => w'.cell? ⟨w.heap.size, 0, none⟩ = some (.slice A n c) ∧ w'.cell? ⟨w.heap.size, 1, none⟩ = some (.slice (some ⟨gB, 0, none⟩) m d) ∧ w'.cell? ⟨gB, q * 4, none⟩ = some (.int .i64 (lf : Int))) (simp [go_sem, *, World.cell?_alloc_some, World.cell?_setCell_far, Nat.lt_add_right, Nat.ne_of_gt]) (first | (go_at_call 169; refine (above_any A (some ⟨gB, 0, none⟩) n c m d ps lf _ HN.out (HR.out.below HL.out (zAc HB.out (by repeat (first | exact Below.refl _ _ | refine Below.drew ?_)))) (zAi HL.out (zAc HB.out (by repeat (first | exact Below.refl _ _ | refine Below.drew ?_)))) HO.out hlf).mono ?_; rintro e w2 ⟨v2, rfl, own2, hb2⟩; obtain ⟨Y, cy, rfl, rd2⟩ := zAq own2; have HR2 := Lib.hid rd2; have hs2 := hb2.size; (try simp at hs2); have hk20 := fun o => hb2.cell (p := ⟨w.heap.size, o, none⟩) zOm; have hk21 := fun o => hb2.cell (p := ⟨gB, o, none⟩) zOm; have hy20 : w.heap.size < w2.heap.size := (by omega); have hy21 : gB < w2.heap.size := (by omega); clear own2 rd2) | (go_at_call 168; refine (contains_any Y _ cy (upI ps lf) (s : Int) _ HUL.out HR2.out).mono ?_; rintro e w3 ⟨rfl, rfl⟩; rw [HHZ.out]))
    have hB3 : Below wr.heap.size wr w2 := zBe
    have HB3 := Lib.hid hB3
    have y0 := (hB3.cell (p := ⟨w.heap.size, 0, none⟩) hy0).trans bx0
    have y1 := (hB3.cell (p := ⟨w.heap.size, 1, none⟩) hy0).trans bx1
    clear hk20 hk21 hB3
    go_wp2
    go_roundw
    case rel =>
     refine ⟨j + 1, X, cx, by omega, by go_num, ?_, ?_, zAc HB.out HB3.out, by omega, y0, y1⟩
     ·rw [HE.out]
     ·rw [HE.out]; exact zAe HW.out HB3.out
    case measure => simp [intOf]; omega
   ·have hnm : s ∈ up ps lf := hasZ_up.1 hh
    have HE : Hid (undrK ps ns nd s (j + 1) = undrK ps ns nd s j ++ [(q : Int)]) := Lib.hid (undrK_yes HX.out (by rw [← HLF.out]; exact hnm))
    have HHZ := Lib.hid hh
    clear hnm hh
    go_wp2_with fail
    go_region_held3 (fun w' => w'.cell? ⟨w.heap.size, 0, none⟩ = some (.slice A n c) ∧ w'.cell? ⟨w.heap.size, 1, none⟩ = some (.slice (some ⟨gB, 0, none⟩) m d) ∧ w'.cell? ⟨gB, q * 4, none⟩ = some (.int .i64 (lf : Int))) (simp [go_sem, *, World.cell?_alloc_some, World.cell?_setCell_far, Nat.lt_add_right, Nat.ne_of_gt]) (first | (go_at_call 169; refine (above_any A (some ⟨gB, 0, none⟩) n c m d ps lf _ HN.out (HR.out.below HL.out (zAc HB.out (by repeat (first | exact Below.refl _ _ | refine Below.drew ?_)))) (zAi HL.out (zAc HB.out (by repeat (first | exact Below.refl _ _ | refine Below.drew ?_)))) HO.out hlf).mono ?_; rintro e w2 ⟨v2, rfl, own2, hb2⟩; obtain ⟨Y, cy, rfl, rd2⟩ := zAq own2; have HR2 := Lib.hid rd2; have hs2 := hb2.size; (try simp at hs2); have hk20 := fun o => hb2.cell (p := ⟨w.heap.size, o, none⟩) zOm; have hk21 := fun o => hb2.cell (p := ⟨gB, o, none⟩) zOm; have hy20 : w.heap.size < w2.heap.size := (by omega); have hy21 : gB < w2.heap.size := (by omega); clear own2 rd2) | (go_at_call 168; refine (contains_any Y _ cy (upI ps lf) (s : Int) _ HUL.out HR2.out).mono ?_; rintro e w3 ⟨rfl, rfl⟩; rw [HHZ.out]))
    have hB3 : Below wr.heap.size wr w2 := zBe
    have HB3 := Lib.hid hB3
    have y0 := (hB3.cell (p := ⟨w.heap.size, 0, none⟩) hy0).trans bx0
    have y1 := (hB3.cell (p := ⟨w.heap.size, 1, none⟩) hy0).trans bx1
    have hown3 := zAe HW.out hB3
    have hsz3 : w.heap.size + 1 ≤ w2.heap.size := by omega
    clear hk20 hk21 hB3 hb2
    obtain ⟨i0, hi, hz0, hz1, hz2⟩ := info_parts infoI
    go_wp2_with (at_builtin; refine wpList_append_own _ rfl _ _ 23 rfl (w.heap.size + 1) 3 i0 (.int .i64 0) 1 8 Tryz.underlying23 hi hz0 hz1 hz2 rfl (by decide) _ _ _ rfl (hown3.alloc _) ⟨w2.heap.size, 0, none⟩ 1 1 [.int .i64 (q : Int)] rfl rfl ?c1 ?c2 ?c3 ?c4 ?c5 ?_)
    try case c1 =>
     intro j y hy
     match j, hy with
     | 0, hy => (simp at hy; subst hy; simp [Addr.add])
    try case c2 => simp [Value.oneCell']
    case c3 => unfold maxLen; have := HK.out; have := HLE.out; omega
    case c4 => have := HK.out; have := HLE.out; omega
    try case c5 => first | omega | (simp <;> omega)
    intro v' w4 hown4 hg4 _
    obtain ⟨X', cx', rfl, _⟩ := zAq hown4
    have hgb := hg4.block w.heap.size (by simp <;> omega) (fun e => by have := zAu hown3 _ e.symm; omega)
    have hs4 := hg4.size
    (try simp at hs4)
    have z0 := (World.cell?_of_block (a := ⟨w.heap.size, 0, none⟩) hgb).trans (((zAa w2 _).cell (p := ⟨w.heap.size, 0, none⟩) (show w.heap.size < w2.heap.size by omega)).trans y0)
    have z1 := (World.cell?_of_block (a := ⟨w.heap.size, 1, none⟩) hgb).trans (((zAa w2 _).cell (p := ⟨w.heap.size, 1, none⟩) (show w.heap.size < w2.heap.size by omega)).trans y1)
    have hB4 : Below w.heap.size w w4 := Below.grown ((zAc HB.out HB3.out).alloc (by have := HB.out.size; have := HB3.out.size; omega) _) hg4 (by simp; have := HB.out.size; have := HB3.out.size; omega) (fun k hk => by have := zAu hown3 k hk; omega)
    have HO4 := Lib.hid hown4
    clear hown4 hgb hg4 hz0 hz1 hz2 hi hown3
    go_wp2
    go_roundw
    case rel =>
     refine ⟨j + 1, X', cx', by omega, by go_num, ?_, ?_, hB4, by omega, z0, z1⟩
     ·rw [HE.out, List.length_append]; rfl
     ·rw [HE.out, List.length_append]
      have := HO4.out
      simpa [ints] using this
    case measure => simp [intOf]; omega
  ·have hj9 : j = k := by omega
   subst hj9
   go_wp2
   go_ret
   exact ⟨_, rfl, by rw [HF.out]; exact zAm HW.out (by omega), HB.out⟩
set_option maxHeartbeats 8000000 in
set_option maxRecDepth 20000 in
theorem sOf_any (A B : Option Addr) (n c m d : Nat) (ps : List Int) (ns : List Q) (D : Option Addr) (k e : Nat) (nd : List Int) (s : Nat) (w : World) (hn : n ≤ 1048576) (hm : m ≤ 1048576) (hr : Rd w A n 1 (ints ps)) (hq : Rd w B m 4 (flat ns)) (hl : ∀ g, A = some ⟨g, 0, none⟩ → g < w.heap.size) (hl2 : ∀ g, B = some ⟨g, 0, none⟩ → g < w.heap.size) (hk : k ≤ 1048576) (hd : Rd w D k 1 (ints nd)) (hl3 : ∀ g, D = some ⟨g, 0, none⟩ → g < w.heap.size) (htp : topoOkB ps ns = true) (hnd : ∀ x ∈ nd, 0 ≤ x ∧ x < ns.length) :
  Calls Tryz.prog 242 #[.agg #[.slice A n c, .slice B m d], .slice D k e, .int .i64 s] w fun e w' => ∃ v, e = .returned v ∧ w'.ownsRow w.heap.size 3 1 v (undr ps ns nd s).length (ints (undr ps ns nd s)) ∧ Below w.heap.size w w' := by
 have hparok := (topo_parts htp).2.2.2.2.1
 have HO := Lib.hid hparok
 have HT := Lib.hid htp
 have HND := Lib.hid hnd
 clear hparok htp hnd
 have hpl := hr.ilen
 have hql : ns.length = m := by have := hq.1; rw [flat_len] at this; omega
 have hn9 : n ≤ 9223372036854775807 := by omega
 have hm9 : m ≤ 9223372036854775807 := by omega
 have HN := Lib.hid hn
 have HM := Lib.hid hm
 have HR := Lib.hid hr
 have HQ := Lib.hid hq
 have HL := Lib.hid hl
 have HL2 := Lib.hid hl2
 have HP := Lib.hid hpl
 have HQL := Lib.hid hql
 clear hn hm hr hq hl hl2 hpl hql
 have hdl := hd.ilen
 have hk9 : k ≤ 9223372036854775807 := by omega
 have HK := Lib.hid hk
 have HD := Lib.hid hd
 have HL3 := Lib.hid hl3
 have HDL := Lib.hid hdl
 clear hk hd hl3 hdl
 have HF : Hid (undr ps ns nd s = undrK ps ns nd s k) := Lib.hid (undrK_all HDL.out).symm
 go_enter Tryz.func242, Tryz.ntmps242
 go_wp2
 go_loopw [7, 13] (fun v i wr => ∃ (j : Nat) (X : Option Addr) (cx : Nat), j ≤ k ∧ i = .int .i64 j ∧ v = .slice X (undrK ps ns nd s j).length cx ∧ wr.ownsRow (w.heap.size + 1) 3 1 (.slice X (undrK ps ns nd s j).length cx) (undrK ps ns nd s j).length (ints (undrK ps ns nd s j)) ∧ Below w.heap.size w wr ∧ w.heap.size + 1 ≤ wr.heap.size ∧ wr.cell? ⟨w.heap.size, 0, none⟩ = some (.slice A n c) ∧ wr.cell? ⟨w.heap.size, 1, none⟩ = some (.slice B m d)) (fun _ i _ => k - (intOf i).toNat)
 case atStart =>
  refine ⟨0, _, 0, Nat.zero_le _, rfl, rfl, own_lit (cs := []) (zAj _ (by simp)) rfl (by show 0 ≤ maxLen; decide) (by omega), zBe, zOm, ?_, ?_⟩
  ·simp [go_sem, *, World.cell?_alloc_some]
  ·simp [go_sem, *, World.cell?_alloc_some]
 case round =>
  obtain ⟨j, X, cx, hj, rfl, rfl, hown, hbw, hsz, bx0, bx1⟩ := hrel
  have hlen : (undrK ps ns nd s j).length ≤ k := by have := undrK_len ps ns nd s j; omega
  have HLE := Lib.hid hlen
  have HB := Lib.hid hbw
  have HW := Lib.hid hown
  have hy0 : w.heap.size < wr.heap.size := by omega
  clear hlen hbw hown
  by_cases hlt : j < k
  ·have hlt' : (j : Int) < k := by omega
   obtain ⟨gD, x, rfl, hx, cx9⟩ := Rd.int (HD.out.below HL3.out HB.out) hlt
   have hxm := HND.out x (List.mem_of_getElem? hx)
   obtain ⟨q, rfl⟩ : ∃ q : Nat, x = q := ⟨x.toNat, by omega⟩
   have hqm : q < m := by have := HQL.out; omega
   have hqm' : (q : Int) < m := by omega
   obtain ⟨gB, z, rfl, hz, c0, c1, c2, c3⟩ := (HQ.out.below HL2.out HB.out).q hqm
   obtain ⟨hlp, _, q', hq1, hq2, _⟩ := lfN_ok HT.out (x := (q : Int)) (by omega) (by rw [HQL.out]; omega)
   simp only [Int.toNat_natCast] at hq1
   rw [hz] at hq1
   obtain rfl := Option.some.inj hq1
   rw [hq2] at c0
   rw [HP.out] at hlp
   have hgB := zAi HL2.out HB.out gB rfl
   have HX := Lib.hid hx
   obtain ⟨lf, hlf9⟩ : ∃ lf, lf = lfN ns (q : Int) := ⟨_, rfl⟩
   rw [← hlf9] at hlp c0
   have hlf := hlp
   have HLF := Lib.hid hlf9
   have hul : (upI ps lf).length ≤ 1048577 := by
    have h1 := up_len HO.out lf (by rw [HP.out]; omega)
    have h2 := dep_le HO.out lf (by rw [HP.out]; omega)
    have h3 := HN.out
    simp only [upI, List.length_map]; omega
   have HUL := Lib.hid hul
   clear hx hxm hz hq1 hq2 hlf9 hul c1 c2 c3 hlp
   cases hh : hasZ (upI ps lf) (s : Int)
   ·have hnm : s ∉ up ps lf := fun h => by rw [hasZ_up.2 h] at hh; cases hh
    have HE : Hid (undrK ps ns nd s (j + 1) = undrK ps ns nd s j) := Lib.hid (undrK_no HX.out (by rw [← HLF.out]; exact hnm))
    have HHZ := Lib.hid hh
    clear hnm hh
    go_wp2_with fail
    go_region_held3 (fun w' => w'.cell? ⟨w.heap.size, 0, none⟩ = some (.slice A n c) ∧ w'.cell? ⟨w.heap.size, 1, none⟩ = some (.slice (some ⟨gB, 0, none⟩) m d) ∧ w'.cell? ⟨gB, q * 4, none⟩ = some (.int .i64 (lf : Int))) (simp [go_sem, *, World.cell?_alloc_some, World.cell?_setCell_far, Nat.lt_add_right, Nat.ne_of_gt]) (first | (go_at_call 162; refine (sUp_any A (some ⟨gB, 0, none⟩) n c m d ps lf _ HN.out (HR.out.below HL.out (zAc HB.out (by repeat (first | exact Below.refl _ _ | refine Below.drew ?_)))) (zAi HL.out (zAc HB.out (by repeat (first | exact Below.refl _ _ | refine Below.drew ?_)))) HO.out hlf).mono ?_; rintro e w2 ⟨v2, rfl, own2, hb2⟩; obtain ⟨Y, cy, rfl, rd2⟩ := zAq own2; have HR2 := Lib.hid rd2; have hs2 := hb2.size; (try simp at hs2); have hk20 := fun o => hb2.cell (p := ⟨w.heap.size, o, none⟩) zOm; have hk21 := fun o => hb2.cell (p := ⟨gB, o, none⟩) zOm; have hy20 : w.heap.size < w2.heap.size := (by omega); have hy21 : gB < w2.heap.size := (by omega); clear own2 rd2) | (go_at_call 161; refine (shas_any Y _ cy (upI ps lf) (s : Int) _ HUL.out HR2.out).mono ?_; rintro e w3 ⟨rfl, rfl⟩; rw [HHZ.out]))
    have hB3 : Below wr.heap.size wr w2 := zBe
    have HB3 := Lib.hid hB3
    have y0 := (hB3.cell (p := ⟨w.heap.size, 0, none⟩) hy0).trans bx0
    have y1 := (hB3.cell (p := ⟨w.heap.size, 1, none⟩) hy0).trans bx1
    clear hk20 hk21 hB3
    go_wp2
    go_roundw
    case rel =>
     refine ⟨j + 1, X, cx, by omega, by go_num, ?_, ?_, zAc HB.out HB3.out, by omega, y0, y1⟩
     ·rw [HE.out]
     ·rw [HE.out]; exact zAe HW.out HB3.out
    case measure => simp [intOf]; omega
   ·have hnm : s ∈ up ps lf := hasZ_up.1 hh
    have HE : Hid (undrK ps ns nd s (j + 1) = undrK ps ns nd s j ++ [(q : Int)]) := Lib.hid (undrK_yes HX.out (by rw [← HLF.out]; exact hnm))
    have HHZ := Lib.hid hh
    clear hnm hh
    go_wp2_with fail
    go_region_held3 (fun w' => w'.cell? ⟨w.heap.size, 0, none⟩ = some (.slice A n c) ∧ w'.cell? ⟨w.heap.size, 1, none⟩ = some (.slice (some ⟨gB, 0, none⟩) m d) ∧ w'.cell? ⟨gB, q * 4, none⟩ = some (.int .i64 (lf : Int))) (simp [go_sem, *, World.cell?_alloc_some, World.cell?_setCell_far, Nat.lt_add_right, Nat.ne_of_gt]) (first | (go_at_call 162; refine (sUp_any A (some ⟨gB, 0, none⟩) n c m d ps lf _ HN.out (HR.out.below HL.out (zAc HB.out (by repeat (first | exact Below.refl _ _ | refine Below.drew ?_)))) (zAi HL.out (zAc HB.out (by repeat (first | exact Below.refl _ _ | refine Below.drew ?_)))) HO.out hlf).mono ?_; rintro e w2 ⟨v2, rfl, own2, hb2⟩; obtain ⟨Y, cy, rfl, rd2⟩ := zAq own2; have HR2 := Lib.hid rd2; have hs2 := hb2.size; (try simp at hs2); have hk20 := fun o => hb2.cell (p := ⟨w.heap.size, o, none⟩) zOm; have hk21 := fun o => hb2.cell (p := ⟨gB, o, none⟩) zOm; have hy20 : w.heap.size < w2.heap.size := (by omega); have hy21 : gB < w2.heap.size := (by omega); clear own2 rd2) | (go_at_call 161; refine (shas_any Y _ cy (upI ps lf) (s : Int) _ HUL.out HR2.out).mono ?_; rintro e w3 ⟨rfl, rfl⟩; rw [HHZ.out]))
    have hB3 : Below wr.heap.size wr w2 := zBe
    have HB3 := Lib.hid hB3
    have y0 := (hB3.cell (p := ⟨w.heap.size, 0, none⟩) hy0).trans bx0
    have y1 := (hB3.cell (p := ⟨w.heap.size, 1, none⟩) hy0).trans bx1
    have hown3 := zAe HW.out hB3
    have hsz3 : w.heap.size + 1 ≤ w2.heap.size := by omega
    clear hk20 hk21 hB3 hb2
    obtain ⟨i0, hi, hz0, hz1, hz2⟩ := info_parts infoI
    go_wp2_with (at_builtin; refine wpList_append_own _ rfl _ _ 23 rfl (w.heap.size + 1) 3 i0 (.int .i64 0) 1 8 Tryz.underlying23 hi hz0 hz1 hz2 rfl (by decide) _ _ _ rfl (hown3.alloc _) ⟨w2.heap.size, 0, none⟩ 1 1 [.int .i64 (q : Int)] rfl rfl ?c1 ?c2 ?c3 ?c4 ?c5 ?_)
    try case c1 =>
     intro j y hy
     match j, hy with
     | 0, hy => (simp at hy; subst hy; simp [Addr.add])
    try case c2 => simp [Value.oneCell']
    case c3 => unfold maxLen; have := HK.out; have := HLE.out; omega
    case c4 => have := HK.out; have := HLE.out; omega
    try case c5 => first | omega | (simp <;> omega)
    intro v' w4 hown4 hg4 _
    obtain ⟨X', cx', rfl, _⟩ := zAq hown4
    have hgb := hg4.block w.heap.size (by simp <;> omega) (fun e => by have := zAu hown3 _ e.symm; omega)
    have hs4 := hg4.size
    (try simp at hs4)
    have z0 := (World.cell?_of_block (a := ⟨w.heap.size, 0, none⟩) hgb).trans (((zAa w2 _).cell (p := ⟨w.heap.size, 0, none⟩) (show w.heap.size < w2.heap.size by omega)).trans y0)
    have z1 := (World.cell?_of_block (a := ⟨w.heap.size, 1, none⟩) hgb).trans (((zAa w2 _).cell (p := ⟨w.heap.size, 1, none⟩) (show w.heap.size < w2.heap.size by omega)).trans y1)
    have hB4 : Below w.heap.size w w4 := Below.grown ((zAc HB.out HB3.out).alloc (by have := HB.out.size; have := HB3.out.size; omega) _) hg4 (by simp; have := HB.out.size; have := HB3.out.size; omega) (fun k hk => by have := zAu hown3 k hk; omega)
    have HO4 := Lib.hid hown4
    clear hown4 hgb hg4 hz0 hz1 hz2 hi hown3
    go_wp2
    go_roundw
    case rel =>
     refine ⟨j + 1, X', cx', by omega, by go_num, ?_, ?_, hB4, by omega, z0, z1⟩
     ·rw [HE.out, List.length_append]; rfl
     ·rw [HE.out, List.length_append]
      have := HO4.out
      simpa [ints] using this
    case measure => simp [intOf]; omega
  ·have hj9 : j = k := by omega
   subst hj9
   go_wp2
   go_ret
   exact ⟨_, rfl, by rw [HF.out]; exact zAm HW.out (by omega), HB.out⟩
theorem cell_lt {w : World} {b o : Nat} {v : Value} (h : w.cell? ⟨b, o, none⟩ = some v) : b < w.heap.size := by
 simp only [World.cell?] at h
 cases hh : w.heap[b]? with
 | none => rw [hh] at h; simp at h
 | some x => exact zAg hh
theorem best_cases (ps : List Int) (ns : List Q) (nd : List Int) (q : Nat) (most : Int) (s : Nat) : bestN ps ns nd q most s = -1 ∨ ∃ b : Nat, bestN ps ns nd q most s = b ∧ b < s := by
 rcases bestN_spec ps ns nd q most s with ⟨h, _⟩ | ⟨b, h1, h2, _⟩
 ·exact Or.inl h
 ·exact Or.inr ⟨b, h1, h2⟩
theorem best_no {ps : List Int} {ns : List Q} {nd : List Int} {q : Nat} {most : Int} {s : Nat} (h : ¬ goodB ps ns nd q most s) : bestN ps ns nd q most (s + 1) = bestN ps ns nd q most s := by
 rw [bestN_succ]; unfold bestF; rw [if_neg (fun e => h e.1)]
theorem best_first {ps : List Int} {ns : List Q} {nd : List Int} {q : Nat} {most : Int} {s : Nat} (h : goodB ps ns nd q most s) (hb : bestN ps ns nd q most s = -1) : bestN ps ns nd q most (s + 1) = s := by
 rw [bestN_succ, hb]; unfold bestF; rw [if_pos ⟨h, Or.inl (by omega)⟩]
theorem best_take {ps : List Int} {ns : List Q} {nd : List Int} {q : Nat} {most : Int} {s b : Nat} (h : goodB ps ns nd q most s) (hb : bestN ps ns nd q most s = b) (h2 : lev ps s < lev ps b ∨ (lev ps s = lev ps b ∧ (undr ps ns nd s).length < (undr ps ns nd b).length)) : bestN ps ns nd q most (s + 1) = s := by
 rw [bestN_succ, hb]; unfold bestF; rw [if_pos ⟨h, Or.inr (by simpa using h2)⟩]
theorem best_keep {ps : List Int} {ns : List Q} {nd : List Int} {q : Nat} {most : Int} {s b : Nat} (hb : bestN ps ns nd q most s = b) (h2 : ¬ (lev ps s < lev ps b ∨ (lev ps s = lev ps b ∧ (undr ps ns nd s).length < (undr ps ns nd b).length))) : bestN ps ns nd q most (s + 1) = b := by
 rw [bestN_succ, hb]; unfold bestF; rw [if_neg (fun e => by
  rcases e.2 with e1 | e1
  ·omega
  ·exact h2 (by simpa using e1))]
set_option maxHeartbeats 8000000 in
theorem sSwitch4_any (A B : Option Addr) (n c m d : Nat) (ps : List Int) (ns : List Q) (D : Option Addr) (k e : Nat) (nd : List Int) (q : Nat) (most : Int) (w : World) (hn : n ≤ 1048576) (hm : m ≤ 1048576) (hr : Rd w A n 1 (ints ps)) (hq : Rd w B m 4 (flat ns)) (hl : ∀ g, A = some ⟨g, 0, none⟩ → g < w.heap.size) (hl2 : ∀ g, B = some ⟨g, 0, none⟩ → g < w.heap.size) (hk : k ≤ 1048576) (hd : Rd w D k 1 (ints nd)) (hl3 : ∀ g, D = some ⟨g, 0, none⟩ → g < w.heap.size) (htp : topoOkB ps ns = true) (hnd : ∀ x ∈ nd, 0 ≤ x ∧ x < ns.length) :
  Calls Tryz.prog 241 #[.agg #[.slice A n c, .slice B m d], .slice D k e, .int .i64 q, .int .i64 most] w fun e w' => e = .returned (.int .i64 (bestN ps ns nd q most n)) ∧ Below w.heap.size w w' := by
 have hparok := (topo_parts htp).2.2.2.2.1
 have HO := Lib.hid hparok
 have HT := Lib.hid htp
 have HND := Lib.hid hnd
 clear hparok htp hnd
 have hpl := hr.ilen
 have hql : ns.length = m := by have := hq.1; rw [flat_len] at this; omega
 have hn9 : n ≤ 9223372036854775807 := by omega
 have hm9 : m ≤ 9223372036854775807 := by omega
 have HN := Lib.hid hn
 have HM := Lib.hid hm
 have HR := Lib.hid hr
 have HQ := Lib.hid hq
 have HL := Lib.hid hl
 have HL2 := Lib.hid hl2
 have HP := Lib.hid hpl
 have HQL := Lib.hid hql
 clear hn hm hr hq hl hl2 hpl hql
 have hdl := hd.ilen
 have hk9 : k ≤ 9223372036854775807 := by omega
 have HK := Lib.hid hk
 have HD := Lib.hid hd
 have HL3 := Lib.hid hl3
 have HDL := Lib.hid hdl
 clear hk hd hl3 hdl
 go_enter Tryz.func241, Tryz.ntmps241
 go_wp2
 go_loopw [9, 16] (fun v i wr => ∃ (s : Nat) (bv : Int), s ≤ n ∧ i = .int .i64 s ∧ v = .int .i64 bv ∧ Hid (bv = bestN ps ns nd q most s) ∧ Below w.heap.size w wr ∧ wr.cell? ⟨w.heap.size, 0, none⟩ = some (.slice A n c) ∧ wr.cell? ⟨w.heap.size, 1, none⟩ = some (.slice B m d)) (fun _ i _ => n - (intOf i).toNat)
 case atStart =>
  refine ⟨0, -1, Nat.zero_le _, rfl, rfl, Lib.hid rfl, zBe, ?_, ?_⟩ <;> simp [go_sem, *, World.cell?_alloc_some]
 case round =>
  obtain ⟨s, bv, hs, rfl, rfl, HBV, hbw, bx0, bx1⟩ := hrel
  have HB := Lib.hid hbw
  have hy0 : w.heap.size < wr.heap.size := by
   have hz9 : ∀ o v, wr.cell? ⟨w.heap.size, o, none⟩ = some v → w.heap.size < wr.heap.size := fun o v h => cell_lt h
   exact hz9 _ _ bx0
  clear hbw
  by_cases hlt : s < n
  ·have hlt' : (s : Int) < n := by omega
   go_wp2_with fail
   refine (sOf_any A B n c m d ps ns D k e nd s _ HN.out HM.out (HR.out.below HL.out zBe) (HQ.out.below HL2.out zBe) (zAi HL.out zBe) (zAi HL2.out zBe) HK.out (HD.out.below HL3.out zBe) (zAi HL3.out zBe) HT.out HND.out).mono ?_
   rintro e w1 ⟨v1, rfl, own1, hb1⟩
   have hs1 := hb1.size
   (try simp at hs1)
   have hy10 : w.heap.size < w1.heap.size := by omega
   have hk10 := fun o => hb1.cell (p := ⟨w.heap.size, o, none⟩) zOm
   have hg10 := fun o => hb1.frozen (p := ⟨w.heap.size, o, none⟩) zOm
   obtain ⟨X1, c1, rfl, _⟩ := zAq own1
   clear own1
   obtain ⟨ls, hls⟩ : ∃ l, l = (undr ps ns nd s).length := ⟨_, rfl⟩
   rw [← hls]
   have HLS := Lib.hid hls
   have hls9 : ls ≤ 1048576 := by rw [hls]; have := undr_len ps ns nd s; have := HDL.out; have := HK.out; omega
   clear hls
   go_wp2_with fail
   refine (slevel_any n A B n c m d ps s _ (by omega) HN.out (HR.out.below HL.out zBe) (zAi HL.out zBe) HO.out hlt).mono ?_
   rintro e w2 ⟨rfl, hb2⟩
   have hs2 := hb2.size
   (try simp at hs2)
   have hy20 : w.heap.size < w2.heap.size := by omega
   have hk20 := fun o => hb2.cell (p := ⟨w.heap.size, o, none⟩) zOm
   have hg20 := fun o => hb2.frozen (p := ⟨w.heap.size, o, none⟩) zOm
   obtain ⟨lv, hlv⟩ : ∃ l, l = lev ps s := ⟨_, rfl⟩
   rw [← hlv]
   have HLV := Lib.hid hlv
   clear hlv
   by_cases hq : q ≤ ls
   ·have hq' : ¬ (ls : Int) < q := by omega
    by_cases hm : lv ≤ most
    ·have hm' : ¬ most < lv := by omega
     have HG : Hid (goodB ps ns nd q most s) := Lib.hid ⟨by rw [← HLV.out]; exact hm, by rw [← HLS.out]; exact hq⟩
     rcases best_cases ps ns nd q most s with hbc | ⟨b, hbc, hbs⟩
     ·have hbv : bv = -1 := HBV.out.trans hbc
      have HE := Lib.hid (best_first HG.out hbc).symm
      subst hbv
      clear hbc
      go_wp2
      go_roundw
      case rel => exact ⟨s + 1, s, by omega, by go_num, rfl, HE, zAc HB.out (by repeat (first | exact Below.refl _ _ | assumption | (refine zAc ?_ (zAd _ _)) | (refine zAc ?_ (zAa _ _)) | (refine zAc ?_ (by assumption)) | refine Below.drew ?_)), (by simp [go_sem, *]), (by simp [go_sem, *])⟩
      case measure => simp [intOf]; omega
     ·have hbv : bv = b := HBV.out.trans hbc
      have HBC := Lib.hid hbc
      subst hbv
      clear hbc
      have hb0' : ¬ (b : Int) < 0 := by omega
      have hbn : b < n := by omega
      go_wp2_with fail
      refine (slevel_any n A B n c m d ps b _ (by omega) HN.out (HR.out.below HL.out zBe) (zAi HL.out zBe) HO.out hbn).mono ?_
      rintro e w3 ⟨rfl, hb3⟩
      have hs3 := hb3.size
      (try simp at hs3)
      have hy30 : w.heap.size < w3.heap.size := by omega
      have hk30 := fun o => hb3.cell (p := ⟨w.heap.size, o, none⟩) zOm
      have hg30 := fun o => hb3.frozen (p := ⟨w.heap.size, o, none⟩) zOm
      obtain ⟨lb, hlb⟩ : ∃ l, l = lev ps b := ⟨_, rfl⟩
      rw [← hlb]
      have HLB := Lib.hid hlb
      clear hlb
      by_cases h1 : lv < lb
      ·have HE := Lib.hid (best_take HG.out HBC.out (Or.inl (by rw [← HLV.out, ← HLB.out]; exact h1))).symm
       go_wp2
       go_roundw
       case rel => exact ⟨s + 1, s, by omega, by go_num, rfl, HE, zAc HB.out (by repeat (first | exact Below.refl _ _ | assumption | (refine zAc ?_ (zAd _ _)) | (refine zAc ?_ (zAa _ _)) | (refine zAc ?_ (by assumption)) | refine Below.drew ?_)), (by simp [go_sem, *]), (by simp [go_sem, *])⟩
       case measure => simp [intOf]; omega
      ·skip
       go_wp2_with fail
       refine (slevel_any n A B n c m d ps b _ (by omega) HN.out (HR.out.below HL.out zBe) (zAi HL.out zBe) HO.out hbn).mono ?_
       rintro e w4 ⟨rfl, hb4⟩
       have hs4 := hb4.size
       (try simp at hs4)
       have hy40 : w.heap.size < w4.heap.size := by omega
       have hk40 := fun o => hb4.cell (p := ⟨w.heap.size, o, none⟩) zOm
       have hg40 := fun o => hb4.frozen (p := ⟨w.heap.size, o, none⟩) zOm
       rw [← HLB.out]
       by_cases h2 : lv = lb
       ·skip
        go_wp2_with fail
        refine (sOf_any A B n c m d ps ns D k e nd b _ HN.out HM.out (HR.out.below HL.out zBe) (HQ.out.below HL2.out zBe) (zAi HL.out zBe) (zAi HL2.out zBe) HK.out (HD.out.below HL3.out zBe) (zAi HL3.out zBe) HT.out HND.out).mono ?_
        rintro e w5 ⟨v5, rfl, own5, hb5⟩
        have hs5 := hb5.size
        (try simp at hs5)
        have hy50 : w.heap.size < w5.heap.size := by omega
        have hk50 := fun o => hb5.cell (p := ⟨w.heap.size, o, none⟩) zOm
        have hg50 := fun o => hb5.frozen (p := ⟨w.heap.size, o, none⟩) zOm
        obtain ⟨X5, c5, rfl, _⟩ := zAq own5
        clear own5
        obtain ⟨lz, hlz⟩ : ∃ l, l = (undr ps ns nd b).length := ⟨_, rfl⟩
        rw [← hlz]
        have HLZ := Lib.hid hlz
        have hlz9 : lz ≤ 1048576 := by rw [hlz]; have := undr_len ps ns nd b; have := HDL.out; have := HK.out; omega
        clear hlz
        by_cases h3 : ls < lz
        ·have h3' : (ls : Int) < lz := by omega
         have HE := Lib.hid (best_take HG.out HBC.out (Or.inr ⟨by rw [← HLV.out, ← HLB.out]; exact h2, by rw [← HLS.out, ← HLZ.out]; exact h3⟩)).symm
         go_wp2
         go_roundw
         case rel => exact ⟨s + 1, s, by omega, by go_num, rfl, HE, zAc HB.out (by repeat (first | exact Below.refl _ _ | assumption | (refine zAc ?_ (zAd _ _)) | (refine zAc ?_ (zAa _ _)) | (refine zAc ?_ (by assumption)) | refine Below.drew ?_)), (by simp [go_sem, *]), (by simp [go_sem, *])⟩
         case measure => simp [intOf]; omega
        ·have h3' : ¬ (ls : Int) < lz := by omega
         have HE := Lib.hid (best_keep (q := q) (most := most) HBC.out (by rw [← HLV.out, ← HLB.out, ← HLS.out, ← HLZ.out]; omega)).symm
         go_wp2
         go_roundw
         case rel => exact ⟨s + 1, b, by omega, by go_num, rfl, HE, zAc HB.out (by repeat (first | exact Below.refl _ _ | assumption | (refine zAc ?_ (zAd _ _)) | (refine zAc ?_ (zAa _ _)) | (refine zAc ?_ (by assumption)) | refine Below.drew ?_)), (by simp [go_sem, *]), (by simp [go_sem, *])⟩
         case measure => simp [intOf]; omega
       ·have HE := Lib.hid (best_keep (q := q) (most := most) HBC.out (by rw [← HLV.out, ← HLB.out]; omega)).symm
        go_wp2
        go_roundw
        case rel => exact ⟨s + 1, b, by omega, by go_num, rfl, HE, zAc HB.out (by repeat (first | exact Below.refl _ _ | assumption | (refine zAc ?_ (zAd _ _)) | (refine zAc ?_ (zAa _ _)) | (refine zAc ?_ (by assumption)) | refine Below.drew ?_)), (by simp [go_sem, *]), (by simp [go_sem, *])⟩
        case measure => simp [intOf]; omega
    ·have hm' : most < lv := by omega
     have HE : Hid (bv = bestN ps ns nd q most (s + 1)) := Lib.hid (by rw [best_no (fun h => hm (by rw [HLV.out]; exact h.1))]; exact HBV.out)
     go_wp2
     go_roundw
     case rel => exact ⟨s + 1, bv, by omega, by go_num, rfl, HE, zAc HB.out (by repeat (first | exact Below.refl _ _ | assumption | (refine zAc ?_ (zAd _ _)) | (refine zAc ?_ (zAa _ _)) | (refine zAc ?_ (by assumption)) | refine Below.drew ?_)), (by simp [go_sem, *]), (by simp [go_sem, *])⟩
     case measure => simp [intOf]; omega
   ·have hq' : (ls : Int) < q := by omega
    have HE : Hid (bv = bestN ps ns nd q most (s + 1)) := Lib.hid (by rw [best_no (fun h => hq (by rw [HLS.out]; exact h.2))]; exact HBV.out)
    go_wp2
    go_roundw
    case rel => exact ⟨s + 1, bv, by omega, by go_num, rfl, HE, zAc HB.out (by repeat (first | exact Below.refl _ _ | assumption | (refine zAc ?_ (zAd _ _)) | (refine zAc ?_ (zAa _ _)) | (refine zAc ?_ (by assumption)) | refine Below.drew ?_)), (by simp [go_sem, *]), (by simp [go_sem, *])⟩
    case measure => simp [intOf]; omega
  ·have hs9 : s = n := by omega
   subst hs9
   go_wp2
   go_ret
   exact ⟨ret_int HBV.out, HB.out⟩
def cnS (ps : List Int) (ns : List Q) (nd : List Int) (s : Nat) : Nat := (undr ps ns nd s).length
def lpS (ps : List Int) (s : Nat) : Bool := (kids ps s).isEmpty
theorem pick_cases (cn : Nat → Nat) (lp : Nat → Bool) (tk : List Nat) (s : Nat) : pick cn lp tk s = -1 ∨ ∃ b : Nat, pick cn lp tk s = b ∧ b < s := by
 rcases pick_spec cn lp tk s with ⟨h, _⟩ | ⟨b, h1, h2, _⟩
 ·exact Or.inl h
 ·exact Or.inr ⟨b, h1, h2⟩
theorem pick_no {cn : Nat → Nat} {lp : Nat → Bool} {tk : List Nat} {s : Nat} (h : cn s = 0 ∨ lp s = false ∨ s ∈ tk) : pick cn lp tk (s + 1) = pick cn lp tk s := by
 rw [pick_succ]; unfold pickF; rw [if_pos h]
theorem pick_yes {cn : Nat → Nat} {lp : Nat → Bool} {tk : List Nat} {s : Nat} (h : ¬ (cn s = 0 ∨ lp s = false ∨ s ∈ tk)) (h2 : pick cn lp tk s < 0 ∨ cn (pick cn lp tk s).toNat < cn s) : pick cn lp tk (s + 1) = s := by
 rw [pick_succ]; unfold pickF; rw [if_neg h, if_pos h2]
theorem pick_keep {cn : Nat → Nat} {lp : Nat → Bool} {tk : List Nat} {s : Nat} (h2 : ¬ (pick cn lp tk s < 0 ∨ cn (pick cn lp tk s).toNat < cn s)) : pick cn lp tk (s + 1) = pick cn lp tk s := by
 rw [pick_succ]; unfold pickF; rw [if_neg h2]; split <;> rfl
set_option maxHeartbeats 8000000 in
theorem sLeaf_any (A B : Option Addr) (n c m d : Nat) (ps : List Int) (ns : List Q) (D : Option Addr) (k e : Nat) (nd : List Int) (E : Option Addr) (t et : Nat) (tk : List Nat) (w : World) (hn : n ≤ 1048576) (hm : m ≤ 1048576) (hr : Rd w A n 1 (ints ps)) (hq : Rd w B m 4 (flat ns)) (hl : ∀ g, A = some ⟨g, 0, none⟩ → g < w.heap.size) (hl2 : ∀ g, B = some ⟨g, 0, none⟩ → g < w.heap.size) (hk : k ≤ 1048576) (hd : Rd w D k 1 (ints nd)) (hl3 : ∀ g, D = some ⟨g, 0, none⟩ → g < w.heap.size) (ht : t ≤ 1048577) (htr : Rd w E t 1 (ints (preI tk))) (htl : ∀ g, E = some ⟨g, 0, none⟩ → g < w.heap.size) (htp : topoOkB ps ns = true) (hnd : ∀ x ∈ nd, 0 ≤ x ∧ x < ns.length) :
  Calls Tryz.prog 243 #[.agg #[.slice A n c, .slice B m d], .slice D k e, .slice E t et] w fun e w' => e = .returned (.int .i64 (pick (cnS ps ns nd) (lpS ps) tk n)) ∧ Below w.heap.size w w' := by
 have hparok := (topo_parts htp).2.2.2.2.1
 have HO := Lib.hid hparok
 have HT := Lib.hid htp
 have HND := Lib.hid hnd
 have HTT := Lib.hid ht
 have HTR := Lib.hid htr
 have HTL := Lib.hid htl
 clear hparok htp hnd ht htr htl
 have hpl := hr.ilen
 have hql : ns.length = m := by have := hq.1; rw [flat_len] at this; omega
 have hn9 : n ≤ 9223372036854775807 := by omega
 have hm9 : m ≤ 9223372036854775807 := by omega
 have HN := Lib.hid hn
 have HM := Lib.hid hm
 have HR := Lib.hid hr
 have HQ := Lib.hid hq
 have HL := Lib.hid hl
 have HL2 := Lib.hid hl2
 have HP := Lib.hid hpl
 have HQL := Lib.hid hql
 clear hn hm hr hq hl hl2 hpl hql
 have hdl := hd.ilen
 have hk9 : k ≤ 9223372036854775807 := by omega
 have HK := Lib.hid hk
 have HD := Lib.hid hd
 have HL3 := Lib.hid hl3
 have HDL := Lib.hid hdl
 clear hk hd hl3 hdl
 go_enter Tryz.func243, Tryz.ntmps243
 go_wp2
 go_loopw [7, 13] (fun v i wr => ∃ (s : Nat) (bv : Int), s ≤ n ∧ i = .int .i64 s ∧ v = .int .i64 bv ∧ Hid (bv = pick (cnS ps ns nd) (lpS ps) tk s) ∧ Below w.heap.size w wr ∧ wr.cell? ⟨w.heap.size, 0, none⟩ = some (.slice A n c) ∧ wr.cell? ⟨w.heap.size, 1, none⟩ = some (.slice B m d)) (fun _ i _ => n - (intOf i).toNat)
 case atStart =>
  refine ⟨0, -1, Nat.zero_le _, rfl, rfl, Lib.hid rfl, zBe, ?_, ?_⟩ <;> simp [go_sem, *, World.cell?_alloc_some]
 case round =>
  obtain ⟨s, bv, hs, rfl, rfl, HBV, hbw, bx0, bx1⟩ := hrel
  have HB := Lib.hid hbw
  have hy0 : w.heap.size < wr.heap.size := cell_lt bx0
  clear hbw
  by_cases hlt : s < n
  ·have hlt' : (s : Int) < n := by omega
   go_wp2_with fail
   refine (sOf_any A B n c m d ps ns D k e nd s _ HN.out HM.out (HR.out.below HL.out zBe) (HQ.out.below HL2.out zBe) (zAi HL.out zBe) (zAi HL2.out zBe) HK.out (HD.out.below HL3.out zBe) (zAi HL3.out zBe) HT.out HND.out).mono ?_
   rintro e w1 ⟨v1, rfl, own1, hb1⟩
   have hs1 := hb1.size
   (try simp at hs1)
   have hy10 : w.heap.size < w1.heap.size := by omega
   have hk10 := fun o => hb1.cell (p := ⟨w.heap.size, o, none⟩) zOm
   have hg10 := fun o => hb1.frozen (p := ⟨w.heap.size, o, none⟩) zOm
   obtain ⟨X1, c1, rfl, _⟩ := zAq own1
   clear own1
   obtain ⟨ls, hls⟩ : ∃ l, l = cnS ps ns nd s := ⟨_, rfl⟩
   rw [show (undr ps ns nd s).length = ls from hls.symm]
   have HLS := Lib.hid hls
   have hls9 : ls ≤ 1048576 := by rw [hls]; have := undr_len ps ns nd s; have := HDL.out; have := HK.out; unfold cnS; omega
   clear hls
   by_cases h0 : ls = 0
   ·have HE : Hid (bv = pick (cnS ps ns nd) (lpS ps) tk (s + 1)) := Lib.hid (by rw [pick_no (Or.inl (by rw [← HLS.out]; exact h0))]; exact HBV.out)
    subst h0
    go_wp2
    go_roundw
    case rel => exact ⟨s + 1, bv, by omega, by go_num, rfl, HE, zAc HB.out (by repeat (first | exact Below.refl _ _ | assumption | (refine zAc ?_ (zAd _ _)) | (refine zAc ?_ (zAa _ _)) | (refine zAc ?_ (by assumption)) | refine Below.drew ?_)), (by simp [go_sem, *]), (by simp [go_sem, *])⟩
    case measure => simp [intOf]; omega
   ·have h0' : ¬ (ls : Int) = 0 := by omega
    go_wp2_with fail
    refine (kids_any A B n c m d ps s _ HN.out (HR.out.below HL.out (by have hB0 := HB.out; repeat (first | exact Below.refl _ _ | assumption | (refine zAc ?_ (zAd _ _)) | exact zAc (by assumption) (by assumption) | (refine zAc ?_ (zAa _ _)) | (refine zAc ?_ (by assumption)) | (refine Below.setCell ?_ (by simp <;> omega) _) | refine Below.drew ?_))) (zAi HL.out (by have hB0 := HB.out; repeat (first | exact Below.refl _ _ | assumption | (refine zAc ?_ (zAd _ _)) | exact zAc (by assumption) (by assumption) | (refine zAc ?_ (zAa _ _)) | (refine zAc ?_ (by assumption)) | (refine Below.setCell ?_ (by simp <;> omega) _) | refine Below.drew ?_)))).mono ?_
    rintro e w2 ⟨v2, rfl, own2, hb2⟩
    have hs2 := hb2.size
    (try simp at hs2)
    have hy20 : w.heap.size < w2.heap.size := by omega
    have hk20 := fun o => hb2.cell (p := ⟨w.heap.size, o, none⟩) zOm
    have hg20 := fun o => hb2.frozen (p := ⟨w.heap.size, o, none⟩) zOm
    obtain ⟨X2, c2, rfl, _⟩ := zAq own2
    clear own2
    by_cases hk0 : (kids ps s).length = 0
    ·have HLP : Hid (lpS ps s = true) := Lib.hid (by unfold lpS; rw [List.isEmpty_iff]; exact List.eq_nil_of_length_eq_zero hk0)
     rw [hk0]
     clear hk0
     go_wp2_with fail
     refine (shas_any E t et (preI tk) (s : Int) _ HTT.out (HTR.out.below HTL.out (by have hB0 := HB.out; repeat (first | exact Below.refl _ _ | assumption | (refine zAc ?_ (zAd _ _)) | exact zAc (by assumption) (by assumption) | (refine zAc ?_ (zAa _ _)) | (refine zAc ?_ (by assumption)) | (refine Below.setCell ?_ (by simp <;> omega) _) | refine Below.drew ?_)))).mono ?_
     rintro e w3 ⟨rfl, hw3⟩
     have hb3 := below_same hw3
     have hs3 := hb3.size
     have hk30 := fun o => hb3.cell (p := ⟨w.heap.size, o, none⟩) zOm
     have hy30 : w.heap.size < w3.heap.size := by omega
     clear hw3
     cases hh : hasZ (preI tk) (s : Int)
     ·have hnt : s ∉ tk := fun h => by rw [preI_mem.2 h] at hh; cases hh
      have HC : Hid (¬ (cnS ps ns nd s = 0 ∨ lpS ps s = false ∨ s ∈ tk)) := Lib.hid (by
       rintro (h | h | h)
       ·rw [← HLS.out] at h; exact h0 h
       ·rw [HLP.out] at h; cases h
       ·exact hnt h)
      clear hnt hh
      rcases pick_cases (cnS ps ns nd) (lpS ps) tk s with hbc | ⟨b, hbc, hbs⟩
      ·have hbv : bv = -1 := HBV.out.trans hbc
       have HE := Lib.hid (pick_yes HC.out (Or.inl (by omega))).symm
       subst hbv
       clear hbc
       go_wp2
       go_roundw
       case rel => exact ⟨s + 1, s, by omega, by go_num, rfl, HE, zAc HB.out (by repeat (first | exact Below.refl _ _ | assumption | (refine zAc ?_ (zAd _ _)) | (refine zAc ?_ (zAa _ _)) | (refine zAc ?_ (by assumption)) | refine Below.drew ?_)), (by simp [go_sem, *]), (by simp [go_sem, *])⟩
       case measure => simp [intOf]; omega
      ·have hbv : bv = b := HBV.out.trans hbc
       have HBC := Lib.hid hbc
       subst hbv
       clear hbc
       have hb0' : ¬ (b : Int) < 0 := by omega
       go_wp2_with fail
       refine (sOf_any A B n c m d ps ns D k e nd b _ HN.out HM.out (HR.out.below HL.out zBe) (HQ.out.below HL2.out zBe) (zAi HL.out zBe) (zAi HL2.out zBe) HK.out (HD.out.below HL3.out zBe) (zAi HL3.out zBe) HT.out HND.out).mono ?_
       rintro e w4 ⟨v4, rfl, own4, hb4⟩
       have hs4 := hb4.size
       (try simp at hs4)
       have hy40 : w.heap.size < w4.heap.size := by omega
       have hk40 := fun o => hb4.cell (p := ⟨w.heap.size, o, none⟩) zOm
       have hg40 := fun o => hb4.frozen (p := ⟨w.heap.size, o, none⟩) zOm
       obtain ⟨X4, c4, rfl, _⟩ := zAq own4
       clear own4
       obtain ⟨lz, hlz⟩ : ∃ l, l = cnS ps ns nd b := ⟨_, rfl⟩
       rw [show (undr ps ns nd b).length = lz from hlz.symm]
       have HLZ := Lib.hid hlz
       have hlz9 : lz ≤ 1048576 := by rw [hlz]; have := undr_len ps ns nd b; have := HDL.out; have := HK.out; unfold cnS; omega
       clear hlz
       by_cases h3 : lz < ls
       ·have h3' : (lz : Int) < ls := by omega
        have HE := Lib.hid (pick_yes HC.out (Or.inr (by rw [HBC.out, Int.toNat_natCast, ← HLZ.out, ← HLS.out]; exact h3))).symm
        go_wp2
        go_roundw
        case rel => exact ⟨s + 1, s, by omega, by go_num, rfl, HE, zAc HB.out (by repeat (first | exact Below.refl _ _ | assumption | (refine zAc ?_ (zAd _ _)) | (refine zAc ?_ (zAa _ _)) | (refine zAc ?_ (by assumption)) | refine Below.drew ?_)), (by simp [go_sem, *]), (by simp [go_sem, *])⟩
        case measure => simp [intOf]; omega
       ·have h3' : ¬ (lz : Int) < ls := by omega
        have HE : Hid ((b : Int) = pick (cnS ps ns nd) (lpS ps) tk (s + 1)) := Lib.hid (by
         rw [pick_keep (by rw [HBC.out, Int.toNat_natCast, ← HLZ.out, ← HLS.out]; omega)]; exact HBC.out.symm)
        go_wp2
        go_roundw
        case rel => exact ⟨s + 1, b, by omega, by go_num, rfl, HE, zAc HB.out (by repeat (first | exact Below.refl _ _ | assumption | (refine zAc ?_ (zAd _ _)) | (refine zAc ?_ (zAa _ _)) | (refine zAc ?_ (by assumption)) | refine Below.drew ?_)), (by simp [go_sem, *]), (by simp [go_sem, *])⟩
        case measure => simp [intOf]; omega
     ·have hnt : s ∈ tk := preI_mem.1 hh
      have HE : Hid (bv = pick (cnS ps ns nd) (lpS ps) tk (s + 1)) := Lib.hid (by rw [pick_no (Or.inr (Or.inr hnt))]; exact HBV.out)
      clear hnt hh
      go_wp2
      go_roundw
      case rel => exact ⟨s + 1, bv, by omega, by go_num, rfl, HE, zAc HB.out (by repeat (first | exact Below.refl _ _ | assumption | (refine zAc ?_ (zAd _ _)) | (refine zAc ?_ (zAa _ _)) | (refine zAc ?_ (by assumption)) | refine Below.drew ?_)), (by simp [go_sem, *]), (by simp [go_sem, *])⟩
      case measure => simp [intOf]; omega
    ·have hk1 : (0 : Int) < (kids ps s).length := by omega
     have HE : Hid (bv = pick (cnS ps ns nd) (lpS ps) tk (s + 1)) := Lib.hid (by
      rw [pick_no (Or.inr (Or.inl (by
       unfold lpS
       cases hkk : kids ps s with
       | nil => rw [hkk] at hk0; exact absurd rfl hk0
       | cons a r => rfl)))]; exact HBV.out)
     generalize (kids ps s).length = kl at *
     go_wp2
     go_roundw
     case rel => exact ⟨s + 1, bv, by omega, by go_num, rfl, HE, zAc HB.out (by repeat (first | exact Below.refl _ _ | assumption | (refine zAc ?_ (zAd _ _)) | (refine zAc ?_ (zAa _ _)) | (refine zAc ?_ (by assumption)) | refine Below.drew ?_)), (by simp [go_sem, *]), (by simp [go_sem, *])⟩
     case measure => simp [intOf]; omega
  ·have hs9 : s = n := by omega
   subst hs9
   go_wp2
   go_ret
   exact ⟨ret_int HBV.out, HB.out⟩
theorem riseF_t {n x : Int} {L : List Int} : riseF n (L, true) x = (L ++ [x], true) := by simp [riseF]
theorem riseF_y {n x : Int} {L : List Int} (h : n < x) : riseF n (L, false) x = (L ++ [n] ++ [x], true) := by simp [riseF, h]
theorem riseF_n {n x : Int} {L : List Int} (h : ¬ n < x) : riseF n (L, false) x = (L ++ [x], false) := by simp [riseF, h]
theorem riseF_len (n : Int) : ∀ (xs : List Int) (s : List Int × Bool), (xs.foldl (riseF n) s).1.length ≤ s.1.length + 2 * xs.length
 | [], s => by simp
 | x :: r, s => by
  rw [List.foldl_cons]
  have h1 := riseF_len n r (riseF n s x)
  have h2 : (riseF n s x).1.length ≤ s.1.length + 2 := by unfold riseF; split <;> simp <;> omega
  simp only [List.length_cons]; omega
theorem ints_snoc9 (L : List Int) (x : Int) : ints (L ++ [x]) = ints L ++ [.int .i64 x] := by simp [ints]
structure OI (w wr : World) (Y : Value) (l : Nat) (L : List Int) : Prop where
 own : wr.ownsRow w.heap.size 3 1 Y l (ints L)
 bel : Below w.heap.size w wr
 len : L.length = l
theorem OI.step {w wr w' : World} {Y : Value} {l : Nat} {L : List Int} (h : OI w wr Y l L) (hb : Below wr.heap.size wr w') : OI w w' Y l L := ⟨zAe h.own hb, zAc h.bel hb, h.len⟩
theorem OI.put {w wr w' : World} {Y Y' : Value} {l : Nat} {L : List Int} {x : Int} (h : OI w wr Y l L) (ho : w'.ownsRow w.heap.size 3 1 Y' (l + 1) (ints L ++ [.int .i64 x])) (hg : wr.grownBy w' Y.ownBlock) : OI w w' Y' (l + 1) (L ++ [x]) :=
 ⟨by rw [ints_snoc9]; exact ho, Below.grown h.bel hg h.bel.size (fun k hk => zAu h.own k hk), by rw [List.length_append, h.len]; rfl⟩
set_option maxHeartbeats 4000000 in
theorem sRise_any (A : Option Addr) (n c : Nat) (zs : List Int) (x : Int) (w : World) (hn : n ≤ 1048576) (hr : Rd w A n 1 (ints zs)) (hl : ∀ g, A = some ⟨g, 0, none⟩ → g < w.heap.size) :
  Calls Tryz.prog 202 #[.slice A n c, .int .i64 x] w fun e w' => ∃ v, e = .returned v ∧ w'.ownsRow w.heap.size 3 1 v (rise x zs).length (ints (rise x zs)) ∧ Below w.heap.size w w' := by
 have hzl := hr.ilen
 have hn9 : n ≤ 9223372036854775807 := by omega
 have HN := Lib.hid hn
 have HR := Lib.hid hr
 have HL := Lib.hid hl
 have HZ := Lib.hid hzl
 clear hn hr hl hzl
 go_enter Tryz.func202, Tryz.ntmps202
 go_wp2
 go_loopw [5, 6, 12] (fun v6 v7 i wr => ∃ (m : Nat) (Y : Option Addr) (cy l : Nat) (L : List Int) (dn : Bool), m ≤ n ∧ i = .int .i64 m ∧ v6 = .slice Y l cy ∧ v7 = .bool dn ∧ Hid ((zs.take m).foldl (riseF x) ([], false) = (L, dn)) ∧ OI w wr (.slice Y l cy) l L) (fun _ _ i _ => n - (intOf i).toNat)
 case atStart => exact ⟨0, _, 0, 0, [], false, Nat.zero_le _, rfl, rfl, rfl, Lib.hid rfl, own_lit (cs := []) (zAj _ (by simp)) rfl (by decide) (by omega), zBe, rfl⟩
 case round =>
  obtain ⟨m, Y, cy, l, L, dn, hm, rfl, rfl, rfl, HM, T'⟩ := hrel
  have T1 := Lib.hid T'
  clear T'
  have hLL : l ≤ 2 * m := by
   have h3 := T1.out.len
   have h1 := riseF_len x (zs.take m) ([], false)
   rw [HM.out] at h1
   have h2 : (zs.take m).length ≤ m := by rw [List.length_take]; omega
   simp only [List.length_nil] at h1
   omega
  have HLL := Lib.hid hLL
  clear hLL
  by_cases hlt : m < n
  ·have hlt' : (m : Int) < n := by omega
   obtain ⟨g, z, rfl, hz, cz⟩ := Rd.int (HR.out.below HL.out T1.out.bel) hlt
   have HTK := Lib.hid (zAy hz)
   clear hz
   cases dn
   ·by_cases hxz : x < z
    ·have HE := Lib.hid (riseF_y (L := L) hxz)
     have hszT6 := T1.out.bel.size
     (try simp at hszT6)
     obtain ⟨i6, hi9, hz0, hz1, hz2⟩ := info_parts infoI
     go_wp2_with (at_builtin; refine wpList_append_own _ rfl _ _ 23 rfl (w.heap.size) 3 i6 (.int .i64 0) 1 8 Tryz.underlying23 hi9 hz0 hz1 hz2 rfl (by decide) _ _ _ rfl (zAe T1.out.own (zAa wr (.cells #[.int .i64 x] 3))) ⟨wr.heap.size, 0, none⟩ 1 1 [.int .i64 x] rfl rfl ?ca1 ?ca2 ?ca3 ?ca4 ?ca5 ?_)
     try case ca1 =>
      intro j y hy
      match j, hy with
      | 0, hy => (simp at hy; subst hy; simp [Addr.add])
     try case ca2 => simp [Value.oneCell']
     case ca3 => unfold maxLen; have := HLL.out; have := HN.out; omega
     case ca4 => have := HLL.out; have := HN.out; omega
     try case ca5 => first | omega | (simp <;> omega)
     intro v6 w6 own6 hg6 _
     obtain ⟨Y6, cy6, rfl, _⟩ := zAq own6
     have T6 := Lib.hid ((T1.out.step (zAa wr (.cells #[.int .i64 x] 3))).put (x := x) own6 hg6)
     clear own6 hg6 hi9 hz0 hz1 hz2
     have hszT7 := T6.out.bel.size
     (try simp at hszT7)
     obtain ⟨i7, hi9, hz0, hz1, hz2⟩ := info_parts infoI
     go_wp2_with (at_builtin; refine wpList_append_own _ rfl _ _ 23 rfl (w.heap.size) 3 i7 (.int .i64 0) 1 8 Tryz.underlying23 hi9 hz0 hz1 hz2 rfl (by decide) _ _ _ rfl (zAe T6.out.own (zAa w6 (.cells #[.int .i64 z] 3))) ⟨w6.heap.size, 0, none⟩ 1 1 [.int .i64 z] rfl rfl ?cb1 ?cb2 ?cb3 ?cb4 ?cb5 ?_)
     try case cb1 =>
      intro j y hy
      match j, hy with
      | 0, hy => (simp at hy; subst hy; simp [Addr.add])
     try case cb2 => simp [Value.oneCell']
     case cb3 => unfold maxLen; have := HLL.out; have := HN.out; omega
     case cb4 => have := HLL.out; have := HN.out; omega
     try case cb5 => first | omega | (simp <;> omega)
     intro v7 w7 own7 hg7 _
     obtain ⟨Y7, cy7, rfl, _⟩ := zAq own7
     have T7 := Lib.hid ((T6.out.step (zAa w6 (.cells #[.int .i64 z] 3))).put (x := z) own7 hg7)
     clear own7 hg7 hi9 hz0 hz1 hz2
     go_wp2
     go_roundw
     case rel => exact ⟨m + 1, Y7, cy7, l + 1 + 1, L ++ [x] ++ [z], true, by omega, by go_num, rfl, rfl, Lib.hid (by rw [HTK.out, List.foldl_append, HM.out]; exact HE.out), T7.out⟩
     case measure => simp [intOf]; omega
    ·have HE := Lib.hid (riseF_n (L := L) hxz)
     have hszT6 := T1.out.bel.size
     (try simp at hszT6)
     obtain ⟨i6, hi9, hz0, hz1, hz2⟩ := info_parts infoI
     go_wp2_with (at_builtin; refine wpList_append_own _ rfl _ _ 23 rfl (w.heap.size) 3 i6 (.int .i64 0) 1 8 Tryz.underlying23 hi9 hz0 hz1 hz2 rfl (by decide) _ _ _ rfl (zAe T1.out.own (zAa wr (.cells #[.int .i64 z] 3))) ⟨wr.heap.size, 0, none⟩ 1 1 [.int .i64 z] rfl rfl ?cc1 ?cc2 ?cc3 ?cc4 ?cc5 ?_)
     try case cc1 =>
      intro j y hy
      match j, hy with
      | 0, hy => (simp at hy; subst hy; simp [Addr.add])
     try case cc2 => simp [Value.oneCell']
     case cc3 => unfold maxLen; have := HLL.out; have := HN.out; omega
     case cc4 => have := HLL.out; have := HN.out; omega
     try case cc5 => first | omega | (simp <;> omega)
     intro v6 w6 own6 hg6 _
     obtain ⟨Y6, cy6, rfl, _⟩ := zAq own6
     have T6 := Lib.hid ((T1.out.step (zAa wr (.cells #[.int .i64 z] 3))).put (x := z) own6 hg6)
     clear own6 hg6 hi9 hz0 hz1 hz2
     go_wp2
     go_roundw
     case rel => exact ⟨m + 1, Y6, cy6, l + 1, L ++ [z], false, by omega, by go_num, rfl, rfl, Lib.hid (by rw [HTK.out, List.foldl_append, HM.out]; exact HE.out), T6.out⟩
     case measure => simp [intOf]; omega
   ·have HE := Lib.hid (riseF_t (n := x) (x := z) (L := L))
    have hszT6 := T1.out.bel.size
    (try simp at hszT6)
    obtain ⟨i6, hi9, hz0, hz1, hz2⟩ := info_parts infoI
    go_wp2_with (at_builtin; refine wpList_append_own _ rfl _ _ 23 rfl (w.heap.size) 3 i6 (.int .i64 0) 1 8 Tryz.underlying23 hi9 hz0 hz1 hz2 rfl (by decide) _ _ _ rfl (zAe T1.out.own (zAa wr (.cells #[.int .i64 z] 3))) ⟨wr.heap.size, 0, none⟩ 1 1 [.int .i64 z] rfl rfl ?cd1 ?cd2 ?cd3 ?cd4 ?cd5 ?_)
    try case cd1 =>
     intro j y hy
     match j, hy with
     | 0, hy => (simp at hy; subst hy; simp [Addr.add])
    try case cd2 => simp [Value.oneCell']
    case cd3 => unfold maxLen; have := HLL.out; have := HN.out; omega
    case cd4 => have := HLL.out; have := HN.out; omega
    try case cd5 => first | omega | (simp <;> omega)
    intro v6 w6 own6 hg6 _
    obtain ⟨Y6, cy6, rfl, _⟩ := zAq own6
    have T6 := Lib.hid ((T1.out.step (zAa wr (.cells #[.int .i64 z] 3))).put (x := z) own6 hg6)
    clear own6 hg6 hi9 hz0 hz1 hz2
    go_wp2
    go_roundw
    case rel => exact ⟨m + 1, Y6, cy6, l + 1, L ++ [z], true, by omega, by go_num, rfl, rfl, Lib.hid (by rw [HTK.out, List.foldl_append, HM.out]; exact HE.out), T6.out⟩
    case measure => simp [intOf]; omega
  ·have hmn : m = n := by omega
   subst hmn
   have HTF : Hid (insE x (L, dn) = rise x zs) := Lib.hid (by
    have h1 := riseF_all x zs []
    have h2 := HM.out
    rw [List.take_of_length_le (by have := HZ.out; omega)] at h2
    rw [h2] at h1
    simpa using h1)
   cases dn
   ·have hLe : L ++ [x] = rise x zs := HTF.out
    have hLn : (rise x zs).length = l + 1 := by rw [← hLe, List.length_append, T1.out.len]; rfl
    have HLe := Lib.hid hLe
    have HLn := Lib.hid hLn
    clear hLe hLn
    have hszT6 := T1.out.bel.size
    (try simp at hszT6)
    obtain ⟨i6, hi9, hz0, hz1, hz2⟩ := info_parts infoI
    go_wp2_with (at_builtin; refine wpList_append_own _ rfl _ _ 23 rfl (w.heap.size) 3 i6 (.int .i64 0) 1 8 Tryz.underlying23 hi9 hz0 hz1 hz2 rfl (by decide) _ _ _ rfl (zAe T1.out.own (zAa wr (.cells #[.int .i64 x] 3))) ⟨wr.heap.size, 0, none⟩ 1 1 [.int .i64 x] rfl rfl ?ce1 ?ce2 ?ce3 ?ce4 ?ce5 ?_)
    try case ce1 =>
     intro j y hy
     match j, hy with
     | 0, hy => (simp at hy; subst hy; simp [Addr.add])
    try case ce2 => simp [Value.oneCell']
    case ce3 => unfold maxLen; have := HLL.out; have := HN.out; omega
    case ce4 => have := HLL.out; have := HN.out; omega
    try case ce5 => first | omega | (simp <;> omega)
    intro v6 w6 own6 hg6 _
    obtain ⟨Y6, cy6, rfl, _⟩ := zAq own6
    have T6 := Lib.hid ((T1.out.step (zAa wr (.cells #[.int .i64 x] 3))).put (x := x) own6 hg6)
    clear own6 hg6 hi9 hz0 hz1 hz2
    go_wp2
    go_ret
    exact ⟨_, rfl, by rw [HLn.out, ← HLe.out]; exact T6.out.own, T6.out.bel⟩
   ·have hLe : L = rise x zs := HTF.out
    have hLn : (rise x zs).length = l := by rw [← hLe]; exact T1.out.len
    have HLe := Lib.hid hLe
    have HLn := Lib.hid hLn
    clear hLe hLn
    go_wp2
    go_ret
    exact ⟨_, rfl, by rw [HLn.out, ← HLe.out]; exact T1.out.own, T1.out.bel⟩
theorem undr_group {ps : List Int} {ns : List Q} {nd : List Int} {l : Nat} (ht : topoOkB ps ns = true) (hn : ∀ x ∈ nd, 0 ≤ x ∧ x < ns.length) (hl : lpS ps l = true) : undr ps ns nd l = group (lfN ns) nd l := by
 unfold undr group
 apply List.filter_congr
 intro x hx
 have hp := (topo_parts ht).2.2.2.2.1
 obtain ⟨h1, h2⟩ := hn x hx
 have h3 := (lfN_ok ht h1 h2).1
 by_cases h : lfN ns x = l
 ·rw [decide_eq_true h, ← h, decide_eq_true (up_self _)]
 ·rw [decide_eq_false h, decide_eq_false]
  intro hu
  rcases up_split hp _ h3 hu with e | ⟨k, hk, _⟩
  ·exact h e.symm
  ·unfold lpS at hl
   rw [List.isEmpty_iff] at hl
   rw [hl] at hk; cases hk
theorem asc_snoc {l : List Int} {k : Nat} {a b : Int} (h : (l.take (k + 1)).Pairwise (· < ·)) (ha : l[k]? = some a) (hb : l[k + 1]? = some b) (hab : a < b) : (l.take (k + 2)).Pairwise (· < ·) := by
 rw [zAy hb, List.pairwise_append]
 refine ⟨h, by simp, fun x hx y hy => ?_⟩
 simp at hy; subst hy
 rw [zAy ha, List.mem_append] at hx
 rw [zAy ha, List.pairwise_append] at h
 rcases hx with hx | hx
 ·have := h.2.2 x hx a (by simp); omega
 ·simp at hx; subst hx; exact hab
theorem asc_no {l : List Int} {k : Nat} {a b : Int} (ha : l[k]? = some a) (hb : l[k + 1]? = some b) (hab : ¬ a < b) : ascB l = false := by
 unfold ascB
 rw [decide_eq_false]
 intro h
 rw [List.pairwise_iff_getElem] at h
 have h1 := (List.getElem?_eq_some_iff.1 ha)
 have h2 := (List.getElem?_eq_some_iff.1 hb)
 have := h k (k + 1) h1.1 h2.1 (by omega)
 rw [h1.2, h2.2] at this
 exact hab this
def chL_ (ps : List Int) (ns : List Q) (nd : List Int) (nn most : Int) : List Int := (ChooseV ps ns nd nn most).getD []
def chB_ (ps : List Int) (ns : List Q) (nd : List Int) (nn most : Int) : Bool := (ChooseV ps ns nd nn most).isSome
theorem ch_bad {ps : List Int} {ns : List Q} {nd : List Int} {nn most : Int} (h : (areB ps ns nd && ascB nd && decide (1 ≤ nn)) = false) : chL_ ps ns nd nn most = [] ∧ chB_ ps ns nd nn most = false := by
 have e : ChooseV ps ns nd nn most = none := by unfold ChooseV; rw [h]; rfl
 exact ⟨by unfold chL_; rw [e]; rfl, by unfold chB_; rw [e]; rfl⟩
theorem ch_none {ps : List Int} {ns : List Q} {nd : List Int} {q : Nat} {most : Int} (h : bestN ps ns nd q most ps.length = -1) : chL_ ps ns nd q most = [] ∧ chB_ ps ns nd q most = false := by
 have e : ChooseV ps ns nd q most = none := by
  unfold ChooseV
  split
  ·unfold chooseV; rw [Int.toNat_natCast, h]; rfl
  ·rfl
 exact ⟨by unfold chL_; rw [e]; rfl, by unfold chB_; rw [e]; rfl⟩
theorem ch_some {ps : List Int} {ns : List Q} {nd : List Int} {q b : Nat} {most : Int} (h : (areB ps ns nd && ascB nd && decide (1 ≤ (q : Int))) = true) (hb : bestN ps ns nd q most ps.length = b) : chL_ ps ns nd q most = outV (lfN ns) (undr ps ns nd b) q ∧ chB_ ps ns nd q most = true := by
 have e : ChooseV ps ns nd q most = some (outV (lfN ns) (undr ps ns nd b) q) := by
  unfold ChooseV
  rw [h, if_pos rfl]
  unfold chooseV
  rw [Int.toNat_natCast, hb, if_neg (by omega), Int.toNat_natCast]
 exact ⟨by unfold chL_; rw [e]; rfl, by unfold chB_; rw [e]; rfl⟩
def gJ (lf : Int → Nat) (M : List Int) (L : List Nat) (jj : Nat) : List Int := (L.take jj).flatMap (group lf M)
theorem gJ_succ {lf : Int → Nat} {M : List Int} {L : List Nat} {jj l : Nat} (h : L[jj]? = some l) : gJ lf M L (jj + 1) = gJ lf M L jj ++ group lf M l := by
 unfold gJ; rw [zAy h, List.flatMap_append]; simp
theorem gJ_full {lf : Int → Nat} {M : List Int} {L : List Nat} {jj q : Nat} (h : q ≤ (gJ lf M L jj).length) : (gJ lf M L jj).take q = (L.flatMap (group lf M)).take q := by
 have e : L.flatMap (group lf M) = gJ lf M L jj ++ (L.drop jj).flatMap (group lf M) := by
  unfold gJ; rw [← List.flatMap_append, List.take_append_drop]
 rw [e, List.take_append_of_le_length h]
theorem preI_succ {L : List Nat} {jj l : Nat} (h : L[jj]? = some l) : preI (L.take jj) ++ [(l : Int)] = preI (L.take (jj + 1)) := by
 rw [zAy h]; simp [preI]
theorem flat_ge {f : Nat → List Int} : ∀ (L : List Nat), (∀ l ∈ L, 1 ≤ (f l).length) → L.length ≤ (L.flatMap f).length
 | [], _ => by simp
 | x :: r, h => by
  have h1 := flat_ge r (fun l hl => h l (List.mem_cons_of_mem _ hl))
  have h2 := h x List.mem_cons_self
  rw [List.flatMap_cons, List.length_append, List.length_cons]; omega
theorem isL_len {lf : Int → Nat} {M : List Int} {L : List Nat} (hn : M.Nodup) (h : IsL lf M L) : L.length ≤ M.length := by
 have h1 := flat_ge (f := group lf M) L (fun l hl => by
  obtain ⟨y, hy, e⟩ := (h.2 l).1 hl
  have : y ∈ group lf M l := List.mem_filter.2 ⟨hy, by simp [e]⟩
  exact List.length_pos_of_mem this)
 rw [flatG_len hn h] at h1; exact h1
theorem asc_nodup {ps : List Int} {ns : List Q} {nd : List Int} {nn : Int} (h : (areB ps ns nd && ascB nd && decide (1 ≤ nn)) = true) : nd.Nodup := by
 simp only [Bool.and_eq_true, ascB, decide_eq_true_eq] at h
 exact rise_nodup h.1.2
theorem best_good {ps : List Int} {ns : List Q} {nd : List Int} {q b n : Nat} {most : Int} (h : bestN ps ns nd q most n = b) : goodB ps ns nd q most b := by
 rcases bestN_spec ps ns nd q most n with ⟨h1, _⟩ | ⟨b', h1, _, h3, _⟩
 ·omega
 ·have : b' = b := by omega
  rw [← this]; exact h3
def slLen : Value → Nat
 | .slice _ n _ => n
 | _ => 0
structure CS (w wr : World) (b : Nat) (P Q : Value) (M : Value) (mine : List Int) (O : Value) (ol : Nat) (out : List Int) (T : Value) (tl : Nat) (tk : List Int) : Prop where
 bx : wr.heap[b]? = some (.cells #[P, Q] 26 (0, 0))
 mine : wr.ownsRow w.heap.size 3 1 M mine.length (ints mine)
 out : wr.ownsRow w.heap.size 3 1 O ol (ints out)
 taken : wr.ownsRow w.heap.size 3 1 T tl (ints tk)
 apO : ∀ k, T.ownBlock = some k → O.ownBlock ≠ some k
 apM : ∀ k, T.ownBlock = some k → M.ownBlock ≠ some k
 bel : Below w.heap.size w wr
theorem own_blkn9 {w : World} {lo : Nat} {e : TypeId} {size : Nat} {v : Value} {n : Nat} {xs : List Value} (h : w.ownsRow lo e size v n xs) : ∀ k, v.ownBlock = some k → k < w.heap.size := by
 intro k hk
 rcases h.2 with ⟨h0, _⟩ | ⟨g, cap, cur, hv, hg, hh, _⟩
 ·subst h0; cases hk
 ·subst hv; cases hk; exact zAg hh
theorem CS.step {w wr w' : World} {b : Nat} {P Q M O T : Value} {mine out tk : List Int} {ol tl : Nat} (h : CS w wr b P Q M mine O ol out T tl tk) (hb : Below wr.heap.size wr w') : CS w w' b P Q M mine O ol out T tl tk :=
 ⟨zAf h.bx hb, zAe h.mine hb, zAe h.out hb, zAe h.taken hb, h.apO, h.apM, zAc h.bel hb⟩
theorem CS.putT {w wr w' : World} {b g cap : Nat} {P Q M O T : Value} {mine out tk : List Int} {ol tl : Nat} {x : Int} (h : CS w wr b P Q M mine O ol out T tl tk)
  (ho : w'.ownsRow w.heap.size 3 1 (.slice (some ⟨g, 0, none⟩) (tl + 1) cap) (tl + 1) (ints tk ++ [.int .i64 x])) (hg : wr.grownBy w' T.ownBlock) (hat : T.ownBlock = some g ∨ g = wr.heap.size) :
  CS w w' b P Q M mine O ol out (.slice (some ⟨g, 0, none⟩) (tl + 1) cap) (tl + 1) (tk ++ [x]) := by
 refine ⟨zAp h.bx hg (zAk h.taken h.bx (by decide)), zAx h.mine hg (fun k hk e => h.apM k e hk), zAx h.out hg (fun k hk e => h.apO k e hk), by rw [ints_snoc9]; exact ho, ?_, ?_, Below.grown h.bel hg h.bel.size (fun k hk => zAu h.taken k hk)⟩
 ·rintro k hk e
  cases hk
  rcases hat with h1 | h1
  ·exact h.apO g h1 e
  ·have := own_blkn9 h.out g e; omega
 ·rintro k hk e
  cases hk
  rcases hat with h1 | h1
  ·exact h.apM g h1 e
  ·have := own_blkn9 h.mine g e; omega
theorem CS.setO {w wr w' : World} {b ol' : Nat} {P Q M O O' T : Value} {mine out out' tk : List Int} {ol tl : Nat} (h : CS w wr b P Q M mine O ol out T tl tk) (hb : Below wr.heap.size wr w') (ho : w'.ownsRow wr.heap.size 3 1 O' ol' (ints out')) :
  CS w w' b P Q M mine O' ol' out' T tl tk :=
 ⟨zAf h.bx hb, zAe h.mine hb, zAm ho h.bel.size, zAe h.taken hb, fun k hk e => by have h1 := own_blkn9 h.taken k hk; have h2 := zAu ho k e; omega, h.apM, zAc h.bel hb⟩
set_option maxHeartbeats 16000000 in
set_option maxRecDepth 20000 in
theorem sChoose_any (A B : Option Addr) (n c m d : Nat) (ps : List Int) (ns : List Q) (D : Option Addr) (k e : Nat) (nd : List Int) (nn most : Int) (w : World) (hn : n ≤ 1048576) (hm : m ≤ 1048576) (hr : Rd w A n 1 (ints ps)) (hq : Rd w B m 4 (flat ns)) (hl : ∀ g, A = some ⟨g, 0, none⟩ → g < w.heap.size) (hl2 : ∀ g, B = some ⟨g, 0, none⟩ → g < w.heap.size) (hk : k ≤ 1048576) (hd : Rd w D k 1 (ints nd)) (hl3 : ∀ g, D = some ⟨g, 0, none⟩ → g < w.heap.size) :
  Calls Tryz.prog 205 #[.agg #[.slice A n c, .slice B m d], .slice D k e, .int .i64 nn, .int .i64 most] w fun e w' => ∃ v, e = .returned (.tuple #[v, .bool (chB_ ps ns nd nn most)]) ∧ w'.ownsRow w.heap.size 3 1 v (chL_ ps ns nd nn most).length (ints (chL_ ps ns nd nn most)) ∧ Below w.heap.size w w' := by
 have hpl := hr.ilen
 have hql : ns.length = m := by have := hq.1; rw [flat_len] at this; omega
 have hn9 : n ≤ 9223372036854775807 := by omega
 have hm9 : m ≤ 9223372036854775807 := by omega
 have HN := Lib.hid hn
 have HM := Lib.hid hm
 have HR := Lib.hid hr
 have HQ := Lib.hid hq
 have HL := Lib.hid hl
 have HL2 := Lib.hid hl2
 have HP := Lib.hid hpl
 have HQL := Lib.hid hql
 clear hn hm hr hq hl hl2 hpl hql
 have hdl := hd.ilen
 have hk9 : k ≤ 9223372036854775807 := by omega
 have HK := Lib.hid hk
 have HD := Lib.hid hd
 have HL3 := Lib.hid hl3
 have HDL := Lib.hid hdl
 clear hk hd hl3 hdl
 cases hare : areB ps ns nd
 ·have HF := Lib.hid (ch_bad (nn := nn) (most := most) (show (areB ps ns nd && ascB nd && decide (1 ≤ nn)) = false by rw [hare]; rfl))
  have HA := Lib.hid hare
  clear hare
  go_enter Tryz.func205, Tryz.ntmps205
  go_wp2_with fail
  refine (sNodes_any A B n c m d ps ns D k e nd _ HN.out HM.out (HR.out.below HL.out zBe) (HQ.out.below HL2.out zBe) (zAi HL.out zBe) (zAi HL2.out zBe) HK.out (HD.out.below HL3.out zBe) (zAi HL3.out zBe)).mono ?_
  rintro e w1 ⟨rfl, hb1⟩
  have hs1 := hb1.size
  (try simp at hs1)
  have hy10 : w.heap.size < w1.heap.size := by omega
  have hk10 := fun o => hb1.cell (p := ⟨w.heap.size, o, none⟩) zOm
  have hg10 := fun o => hb1.frozen (p := ⟨w.heap.size, o, none⟩) zOm
  rw [HA.out]
  go_wp2
  (try go_light)
  refine bodyPost_ret (v := .tuple #[.slice none 0 0, .bool false]) (by simp [results, Tryz.results205, go_sem, *]) rfl ?_
  exact ⟨_, by rw [HF.out.2], by rw [HF.out.1]; exact own_nil _ _ _ _, zBe⟩
 ·have HA := Lib.hid hare
  have hare2 := hare
  simp only [areB, Bool.and_eq_true] at hare2
  have HND : Hid (∀ x ∈ nd, 0 ≤ x ∧ x < ns.length) := Lib.hid (inNodes_iff.1 hare2.1)
  have HT := Lib.hid hare2.2
  clear hare hare2
  by_cases hnn : nn < 1
  ·have HF := Lib.hid (ch_bad (ps := ps) (ns := ns) (nd := nd) (nn := nn) (most := most) (by rw [decide_eq_false (show ¬ 1 ≤ nn by omega), Bool.and_false]))
   go_enter Tryz.func205, Tryz.ntmps205
   go_wp2_with fail
   refine (sNodes_any A B n c m d ps ns D k e nd _ HN.out HM.out (HR.out.below HL.out zBe) (HQ.out.below HL2.out zBe) (zAi HL.out zBe) (zAi HL2.out zBe) HK.out (HD.out.below HL3.out zBe) (zAi HL3.out zBe)).mono ?_
   rintro e w1 ⟨rfl, hb1⟩
   have hs1 := hb1.size
   (try simp at hs1)
   have hy10 : w.heap.size < w1.heap.size := by omega
   have hk10 := fun o => hb1.cell (p := ⟨w.heap.size, o, none⟩) zOm
   have hg10 := fun o => hb1.frozen (p := ⟨w.heap.size, o, none⟩) zOm
   rw [HA.out]
   go_wp2
   (try go_light)
   refine bodyPost_ret (v := .tuple #[.slice none 0 0, .bool false]) (by simp [results, Tryz.results205, go_sem, *]) rfl ?_
   exact ⟨_, by rw [HF.out.2], by rw [HF.out.1]; exact own_nil _ _ _ _, zBe⟩
  ·obtain ⟨q, rfl⟩ : ∃ q : Nat, nn = q := ⟨nn.toNat, by omega⟩
   have hq1 : 1 ≤ q := by omega
   go_enter Tryz.func205, Tryz.ntmps205
   go_wp2_with fail
   refine (sNodes_any A B n c m d ps ns D k e nd _ HN.out HM.out (HR.out.below HL.out zBe) (HQ.out.below HL2.out zBe) (zAi HL.out zBe) (zAi HL2.out zBe) HK.out (HD.out.below HL3.out zBe) (zAi HL3.out zBe)).mono ?_
   rintro e w1 ⟨rfl, hb1⟩
   have hs1 := hb1.size
   (try simp at hs1)
   have hy10 : w.heap.size < w1.heap.size := by omega
   have hk10 := fun o => hb1.cell (p := ⟨w.heap.size, o, none⟩) zOm
   have hg10 := fun o => hb1.frozen (p := ⟨w.heap.size, o, none⟩) zOm
   rw [HA.out]
   go_wp2
   go_loopw [28] (fun i wr => ∃ j : Nat, j ≤ k ∧ i = .int .i64 j ∧ Hid ((nd.take j).Pairwise (· < ·)) ∧ Below w.heap.size w wr ∧ wr.heap[w.heap.size]? = some (.cells #[.slice A n c, .slice B m d] 26 (0, 0))) (fun i _ => k - (intOf i).toNat)
   case atStart => exact ⟨0, Nat.zero_le _, rfl, Lib.hid (by simp), zBe, zAf (zAj _ (by simp)) hb1⟩
   case round =>
    obtain ⟨j, hj, rfl, HASC, hbw, hbx⟩ := hrel
    have HB := Lib.hid hbw
    have HBX := Lib.hid hbx
    clear hbw hbx
    by_cases hlt : j < k
    ·have hlt' : (j : Int) < k := by omega
     cases j with
     | zero =>
      go_wp2_with fail
      go_quiet (fail)
      go_wp2
      go_roundw
      case rel => exact ⟨1, by omega, by go_num, Lib.hid (by cases nd with | nil => simp | cons a r => simp), zAc HB.out (zAd _ _), zAf HBX.out (zAd _ _)⟩
      case measure => simp [intOf]; omega
     | succ m' =>
      obtain ⟨gD, x0, rfl, hx0, cx0⟩ := Rd.int (HD.out.below HL3.out HB.out) (show m' < k by omega)
      obtain ⟨gD', x1, hgD, hx1, cx1⟩ := Rd.int (HD.out.below HL3.out HB.out) (show m' + 1 < k by omega)
      obtain rfl : gD = gD' := by injection hgD with h1; injection h1
      have HX0 := Lib.hid hx0
      have HX1 := Lib.hid hx1
      have hm1 : (0 : Int) < (m' : Int) + 1 := by omega
      have hm4 : IntKind.i64.wrap ((m' : Int) + 1 - 1) = (m' : Int) := by rw [IntWalk.i64_in _ (by omega)]; omega
      have hm5 : (0 : Int) ≤ (m' : Int) := by omega
      have hm6 : (m' : Int) < k := by omega
      have hm7 : (m' : Int) + 1 < k := by omega
      clear hx0 hx1 hgD
      by_cases hxx : x0 < x1
      ·have hxx' : ¬ x1 ≤ x0 := by omega
       have HAS := Lib.hid (asc_snoc HASC.out HX0.out HX1.out hxx)
       go_wp2_with fail
       go_quiet (fail)
       go_wp2
       go_roundw
       case rel => exact ⟨m' + 2, by omega, by go_num, HAS, zAc HB.out (zAd _ _), zAf HBX.out (zAd _ _)⟩
       case measure => simp [intOf]; omega
      ·have hxx' : x1 ≤ x0 := by omega
       have HF := Lib.hid (ch_bad (ps := ps) (ns := ns) (nd := nd) (nn := (q : Int)) (most := most) (by rw [asc_no HX0.out HX1.out hxx]; simp))
       go_wp2_with fail
       go_quiet (fail)
       go_wp2
       (try go_light)
       refine bodyPost_ret (v := .tuple #[.slice none 0 0, .bool false]) (by simp [results, Tryz.results205, go_sem, *]) rfl ?_
       exact ⟨_, by rw [HF.out.2], by rw [HF.out.1]; exact own_nil _ _ _ _, zAc HB.out (zAd _ _)⟩
    ·have hjk : j = k := by omega
     subst hjk
     have HALL : Hid ((areB ps ns nd && ascB nd && decide (1 ≤ (q : Int))) = true) := Lib.hid (by
      have h1 := HASC.out
      rw [List.take_of_length_le (by have := HDL.out; omega)] at h1
      have h2 : ascB nd = true := decide_eq_true h1
      rw [HA.out, h2, decide_eq_true (by omega)]; rfl)
     clear HASC
     have e0 := zAb HBX.out 0 rfl
     have e1 := zAb HBX.out 1 rfl
     simp only [zgc, zga, zgb] at e0 e1
     go_wp2_with fail
     refine (sSwitch4_any A B n c m d ps ns D j e nd q most _ HN.out HM.out (HR.out.below HL.out HB.out) (HQ.out.below HL2.out HB.out) (zAi HL.out HB.out) (zAi HL2.out HB.out) HK.out (HD.out.below HL3.out HB.out) (zAi HL3.out HB.out) HT.out HND.out).mono ?_
     rintro e w2 ⟨rfl, hb2⟩
     have hs2 := hb2.size
     have HB2 := Lib.hid (zAc HB.out hb2)
     have HX2 := Lib.hid (zAf HBX.out hb2)
     clear e0 e1 hb2
     rcases best_cases ps ns nd q most n with hbc | ⟨b, hbc, hbn⟩
     ·have HF := Lib.hid (ch_none (ps := ps) (ns := ns) (nd := nd) (q := q) (most := most) (by rw [HP.out]; exact hbc))
      rw [hbc]
      clear hbc
      go_wp2
      (try go_light)
      refine bodyPost_ret (v := .tuple #[.slice none 0 0, .bool false]) (by simp [results, Tryz.results205, go_sem, *]) rfl ?_
      exact ⟨_, by rw [HF.out.2], by rw [HF.out.1]; exact own_nil _ _ _ _, HB2.out⟩
     ·have HF := Lib.hid (ch_some HALL.out (by rw [HP.out]; exact hbc))
      have hgood := best_good hbc
      rw [hbc]
      clear hbc
      have e0 := zAb HX2.out 0 rfl
      have e1 := zAb HX2.out 1 rfl
      simp only [zgc, zga, zgb] at e0 e1
      have hb0' : ¬ (b : Int) < 0 := by omega
      go_wp2_with fail
      refine (sOf_any A B n c m d ps ns D j e nd b _ HN.out HM.out (HR.out.below HL.out HB2.out) (HQ.out.below HL2.out HB2.out) (zAi HL.out HB2.out) (zAi HL2.out HB2.out) HK.out (HD.out.below HL3.out HB2.out) (zAi HL3.out HB2.out) HT.out HND.out).mono ?_
      rintro e w3 ⟨v3, rfl, own3, hb3⟩
      obtain ⟨M, hM⟩ : ∃ y, y = undr ps ns nd b := ⟨_, rfl⟩
      rw [← hM] at own3 HF
      obtain ⟨X3, c3, rfl, _⟩ := zAq own3
      have hMn : M.Nodup := by rw [hM]; exact (asc_nodup HALL.out).filter _
      have hMi : ∀ x ∈ M, 0 ≤ x ∧ x < ns.length := by rw [hM]; exact undr_in HND.out
      have hMl : q ≤ M.length := by rw [hM]; exact hgood.2
      have hMk : M.length ≤ j := by rw [hM]; have h1 := undr_len ps ns nd b; have := HDL.out; omega
      have HMN := Lib.hid hMn
      have HMI := Lib.hid hMi
      have HML := Lib.hid hMl
      have HMK := Lib.hid hMk
      have hs3 := hb3.size
      have HX3 := Lib.hid (zAf HX2.out hb3)
      have HB3 := Lib.hid (zAc HB2.out hb3)
      have HO3 := Lib.hid (zAm own3 HB2.out.size)
      have HL9 := Lib.hid (sortL_isL (lfN ns) M)
      obtain ⟨L, hL⟩ : ∃ y, y = sortL (lfN ns) M := ⟨_, rfl⟩
      rw [← hL] at HL9
      have HOV : Hid (outV (lfN ns) M q = riseAll ((L.flatMap (group (lfN ns) M)).take q)) := Lib.hid (by unfold outV; rw [hL])
      clear hL hM hMn hMi hMl hMk hgood own3 hb3 e0 e1
      go_upto_region 15 with fail
      have H0 : CS w ((w3.alloc (.cells #[] 3)).alloc (.cells #[] 3)) w.heap.size (.slice A n c) (.slice B m d) (.slice X3 M.length c3) M (.slice (some ⟨w3.heap.size, 0, none⟩) 0 0) 0 [] (.slice (some ⟨w3.heap.size + 1, 0, none⟩) 0 0) 0 [] := by
       have hal : Below w3.heap.size w3 ((w3.alloc (.cells #[] 3)).alloc (.cells #[] 3)) := zAc (zAa _ _) (zAa _ _)
       refine ⟨zAf HX3.out hal, zAe HO3.out hal, zAm (own_lit (lo := w3.heap.size) (cs := []) (zAs (zAj _ rfl) _) rfl (by decide) (Nat.le_refl _)) (by have := HB3.out.size; omega), zAm (own_lit (lo := w3.heap.size) (cs := []) (zAj _ (by simp)) rfl (by decide) (by omega)) (by have := HB3.out.size; omega), ?_, ?_, zAc HB3.out hal⟩
       ·intro k hk e
        have h1 : w3.heap.size + 1 = k := Option.some.inj hk
        have h2 : w3.heap.size = k := Option.some.inj e
        omega
       ·intro k hk e
        have h1 : w3.heap.size + 1 = k := Option.some.inj hk
        have := own_blkn9 HO3.out _ e
        omega
      have T0 := Lib.hid H0
      clear H0
      go_wp2
      go_loopw [13, 14] (fun v13 v14 wr => ∃ (jj : Nat) (O T : Option Addr) (co ol ct : Nat) (out : List Int), jj ≤ L.length ∧ v13 = .slice O ol co ∧ v14 = .slice T jj ct ∧ out.length = ol ∧ Hid (out = riseAll ((gJ (lfN ns) M L jj).take q)) ∧ CS w wr w.heap.size (.slice A n c) (.slice B m d) (.slice X3 M.length c3) M (.slice O ol co) ol out (.slice T jj ct) jj (preI (L.take jj))) (fun _ v14 _ => L.length - slLen v14)
      case atStart => exact ⟨0, _, _, 0, 0, 0, [], Nat.zero_le _, rfl, rfl, rfl, Lib.hid (by simp [gJ, riseAll]), T0.out⟩
      case round =>
       clear T0
       obtain ⟨jj, O, T, co, ol, ct, out, hjj, rfl, rfl, hol, HOUT, T'⟩ := hrel
       obtain ⟨wo, rfl⟩ : ∃ x, x = wr := ⟨wr, rfl⟩
       have T1 := Lib.hid T'
       clear T'
       by_cases hoq : ol < q
       ·have hoq' : (ol : Int) < q := by omega
        have hjl : jj < L.length := by
         by_cases h : jj < L.length
         ·exact h
         ·have h1 : jj = L.length := by omega
          have h2 : (gJ (lfN ns) M L jj).length = M.length := by
           unfold gJ; rw [List.take_of_length_le (by omega)]; exact flatG_len HMN.out HL9.out
          have h3 := congrArg List.length HOUT.out
          rw [riseAll_len, List.length_take, h2] at h3
          have := HML.out
          omega
        obtain ⟨l, hl⟩ : ∃ l, L[jj]? = some l := ⟨_, zgh hjl⟩
        obtain ⟨xl, hxl, hxl2⟩ := (HL9.out.2 l).1 (List.mem_of_getElem? hl)
        have hlp : lpS ps l = true := by
         rw [← hxl2]; exact (lfN_ok HT.out (HMI.out xl hxl).1 (HMI.out xl hxl).2).2.1
        have hln : l < n := by
         rw [← hxl2, ← HP.out]; exact (lfN_ok HT.out (HMI.out xl hxl).1 (HMI.out xl hxl).2).1
        have hpk : pick (cnS ps ns M) (lpS ps) (L.take jj) n = l := pick_L HL9.out (fun l hl => by unfold cnS cnt; rw [undr_group HT.out HMI.out hl]) (fun x hx => by rw [← HP.out]; exact (lfN_ok HT.out (HMI.out x hx).1 (HMI.out x hx).2).1) (fun x hx => (lfN_ok HT.out (HMI.out x hx).1 (HMI.out x hx).2).2.1) hl
        have hgr : undr ps ns M l = group (lfN ns) M l := undr_group HT.out HMI.out hlp
        have HGR := Lib.hid hgr
        have HGS := Lib.hid (gJ_succ (lf := lfN ns) (M := M) hl)
        have HPI := Lib.hid (preI_succ hl)
        have HPK := Lib.hid hpk
        have hL9 : L.length ≤ 1048576 := by
         have h1 := isL_len HMN.out HL9.out
         have := HMK.out; have := HK.out; omega
        clear hxl hxl2 hlp hpk hgr hl
        have e0 := zAb T1.out.bx 0 rfl
        have e1 := zAb T1.out.bx 1 rfl
        simp only [zgc, zga, zgb] at e0 e1
        go_wp2_with fail
        refine (sLeaf_any A B n c m d ps ns X3 M.length c3 M T jj ct (L.take jj) _ HN.out HM.out (HR.out.below HL.out T1.out.bel) (HQ.out.below HL2.out T1.out.bel) (zAi HL.out T1.out.bel) (zAi HL2.out T1.out.bel) (by have := HMK.out; have := HK.out; omega) (zAn T1.out.mine) (zAz T1.out.mine) (by omega) (zAn T1.out.taken) (zAz T1.out.taken) HT.out HMI.out).mono ?_
        rintro e w4 ⟨rfl, hb4⟩
        rw [HPK.out]
        have hs4 := hb4.size
        have T4 := Lib.hid (T1.out.step hb4)
        clear e0 e1 hb4 T1
        have T4a := Lib.hid (T4.out.step (zAa w4 (.cells #[.int .i64 (l : Int)] 3)))
        have hsz4 := T4.out.bel.size
        obtain ⟨i0, hi9, hz0, hz1, hz2⟩ := info_parts infoI
        go_wp2_with (at_builtin; refine wpList_append_lies _ rfl _ _ 23 rfl (w.heap.size) 3 i0 (.int .i64 0) 1 8 Tryz.underlying23 hi9 hz0 hz1 hz2 rfl (by decide) _ _ _ rfl (zAe T4.out.taken (zAa w4 (.cells #[.int .i64 (l : Int)] 3))) ⟨w4.heap.size, 0, none⟩ 1 1 [.int .i64 (l : Int)] rfl rfl ?ca1 ?ca2 (by decide) ?ca3 ?ca4 ?ca5 _ rfl ?_)
        try case ca1 =>
         intro j y hy
         match j, hy with
         | 0, hy => (simp at hy; subst hy; simp [Addr.add])
        try case ca2 => simp [Value.oneCell']
        case ca3 => unfold maxLen; skip; omega
        case ca4 => skip; omega
        try case ca5 => first | omega | (simp <;> omega)
        intro g5 ct5 w5 own5 hg5 hat5 hlt5
        have T5 := Lib.hid (T4a.out.putT own5 hg5 (by simpa using hat5))
        clear own5 hg5 hat5 hi9 hz0 hz1 hz2 T4 T4a
        rw [HPI.out] at T5
        have e0 := zAb T5.out.bx 0 rfl
        have e1 := zAb T5.out.bx 1 rfl
        simp only [zgc, zga, zgb] at e0 e1
        go_wp2_with fail
        refine (sOf_any A B n c m d ps ns X3 M.length c3 M l _ HN.out HM.out (HR.out.below HL.out T5.out.bel) (HQ.out.below HL2.out T5.out.bel) (zAi HL.out T5.out.bel) (zAi HL2.out T5.out.bel) (by have := HMK.out; have := HK.out; omega) (zAn T5.out.mine) (zAz T5.out.mine) HT.out HMI.out).mono ?_
        rintro e w6 ⟨v6, rfl, own6, hb6⟩
        rw [HGR.out] at own6
        obtain ⟨G, hG⟩ : ∃ y, y = group (lfN ns) M l := ⟨_, rfl⟩
        rw [← hG] at own6 HGS
        have hGl : G.length ≤ 1048576 := by
         rw [hG]; unfold group
         have h1 := List.length_filter_le (fun x => decide (lfN ns x = l)) M
         have := HMK.out; have := HK.out; omega
        obtain ⟨X6, c6, rfl, _⟩ := zAq own6
        have T6 := Lib.hid (T5.out.step hb6)
        have O6 := Lib.hid own6
        clear hG own6 hb6 T5 e0 e1
        go_wp2
        go_loopw [13, 76] (fun v13 i wi => ∃ (ii : Nat) (O : Option Addr) (co ol : Nat) (out : List Int), ii ≤ G.length ∧ i = .int .i64 ii ∧ v13 = .slice O ol co ∧ out.length = ol ∧ Hid (out = riseAll ((gJ (lfN ns) M L jj ++ G.take ii).take q)) ∧ CS w wi w.heap.size (.slice A n c) (.slice B m d) (.slice X3 M.length c3) M (.slice O ol co) ol out (.slice (some ⟨g5, 0, none⟩) (jj + 1) ct5) (jj + 1) (preI (L.take (jj + 1))) ∧ Below w6.heap.size w6 wi) (fun _ i _ => G.length - (intOf i).toNat)
        case atStart => exact ⟨0, O, co, ol, out, Nat.zero_le _, rfl, rfl, hol, Lib.hid (by rw [List.take_zero, List.append_nil]; exact HOUT.out), T6.out, Below.refl _ _⟩
        case round =>
         clear T6
         obtain ⟨ii, O7, co7, ol7, out7, hii, rfl, rfl, hol7, HO7, T'', hb⟩ := hrel
         obtain ⟨wi, rfl⟩ : ∃ x, x = wr := ⟨wr, rfl⟩
         have T7 := Lib.hid T''
         have HBI := Lib.hid hb
         clear T'' hb
         have hlen7 : ((gJ (lfN ns) M L jj ++ G.take ii).take q).length = ol7 := by rw [← hol7, HO7.out, riseAll_len]
         have HLEN7 := Lib.hid hlen7
         clear hlen7
         by_cases hlt3 : ii < G.length
         ·have hlt3' : (ii : Int) < G.length := by omega
          obtain ⟨g6, x6, rfl, hx6, cx6⟩ := Rd.int ((zAn O6.out).below (zAz O6.out) HBI.out) hlt3
          have HGT := Lib.hid (zAy hx6)
          clear hx6
          by_cases hoq2 : ol7 < q
          ·have hoq2' : (ol7 : Int) < q := by omega
           have e8 : (rise x6 out7).length = ol7 + 1 := by rw [rise_len, hol7]
           have E8 := Lib.hid e8
           have HE8 : Hid (rise x6 out7 = riseAll ((gJ (lfN ns) M L jj ++ G.take (ii + 1)).take q)) := Lib.hid (by
            rw [HGT.out, ← List.append_assoc, take_snoc_if, if_pos (by rw [HLEN7.out]; exact hoq2), riseAll_snoc, ← HO7.out])
           clear e8
           go_wp2_with fail
           refine (sRise_any O7 ol7 co7 out7 x6 _ (by have := HMK.out; have := HML.out; have := HK.out; omega) (zAn T7.out.out) (zAz T7.out.out)).mono ?_
           rintro e w8 ⟨v8, rfl, own8, hb8⟩
           rw [E8.out] at own8
           obtain ⟨O8, co8, rfl, _⟩ := zAq own8
           have T8 := Lib.hid (T7.out.setO hb8 own8)
           have HB8 := Lib.hid (zAc HBI.out hb8)
           clear own8 hb8 T7 HBI
           go_wp2
           go_roundw
           case rel => exact ⟨ii + 1, O8, co8, ol7 + 1, rise x6 out7, by omega, by go_num, rfl, E8.out, HE8, T8.out, HB8.out⟩
           case measure => simp [intOf]; omega
          ·have hoq2' : ¬ (ol7 : Int) < q := by omega
           have HE8 : Hid (out7 = riseAll ((gJ (lfN ns) M L jj ++ G.take (ii + 1)).take q)) := Lib.hid (by
            rw [HGT.out, ← List.append_assoc, take_snoc_if, if_neg (by rw [HLEN7.out]; exact hoq2)]; exact HO7.out)
           go_wp2
           go_roundw
           case rel => exact ⟨ii + 1, O7, co7, ol7, out7, by omega, by go_num, rfl, hol7, HE8, T7.out, HBI.out⟩
           case measure => simp [intOf]; omega
         ·have hiG : ii = G.length := by omega
          have HE9 : Hid (out7 = riseAll ((gJ (lfN ns) M L (jj + 1)).take q)) := Lib.hid (by
           have h1 := HO7.out
           rw [hiG, List.take_length, ← HGS.out] at h1; exact h1)
          clear hiG
          go_wp2
          go_roundw
          case rel => exact ⟨jj + 1, O7, some ⟨g5, 0, none⟩, co7, ol7, ct5, out7, by omega, rfl, rfl, hol7, HE9, T7.out⟩
          case measure => simp [slLen]; omega
       ·have hoq' : ¬ (ol : Int) < q := by omega
        have hfin : out = chL_ ps ns nd q most := by
         rw [HF.out.1, HOV.out, HOUT.out]
         congr 1
         have h3 := congrArg List.length HOUT.out
         rw [riseAll_len, List.length_take] at h3
         exact gJ_full (by omega)
        have HFIN := Lib.hid hfin
        clear hfin
        go_wp2
        (try go_light)
        refine bodyPost_ret (v := .tuple #[.slice O ol co, .bool true]) (by simp [results, Tryz.results205, go_sem, *]) rfl ?_
        exact ⟨_, by rw [HF.out.2], by rw [← HFIN.out, hol]; exact T1.out.out, T1.out.bel⟩
end Go.Proofs.YtnphjhbfpoekpaaGreat
