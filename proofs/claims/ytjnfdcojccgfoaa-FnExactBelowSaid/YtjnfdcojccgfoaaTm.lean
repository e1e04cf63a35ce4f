/-
  Contracts of Leaves.
-/
import Derived.Test.YtjnfdcojccgfoaaTl
import Derived.Test.YtjnfdcojccgfoaaPi
namespace Go.Proofs.Ytjnfdcojccgfoaa
set_option linter.unusedSimpArgs false
set_option linter.unusedVariables false
set_option linter.unnecessarySimpa false
open Go.RowKit
def leavesV (ps : List Int) (ns : List Q) (nd : List Int) : Int := if areB ps ns nd then ((dist (lfN ns) nd).length : Int) else -1
theorem dist_len (lf : Int → Nat) (l : List Int) : (dist lf l).length ≤ l.length := by
  have key : ∀ (l : List Int) (acc : List Nat), (l.foldl (distF lf) acc).length ≤ l.length + acc.length := by
    intro l
    induction l with
    | nil => intro acc; simp
    | cons x r ih =>
      intro acc
      rw [List.foldl_cons]
      have h := ih (distF lf acc x)
      have h2 : (distF lf acc x).length ≤ acc.length + 1 := by unfold distF; split <;> simp
      simp only [List.length_cons]; omega
  have := key l []
  simpa [dist] using this
theorem preI_mem {l : List Nat} {k : Nat} : hasZ (preI l) (k : Int) = true ↔ k ∈ l := by
  rw [hasZ_iff]; unfold preI; rw [List.mem_map]
  constructor
  · rintro ⟨a, ha, e⟩
    have : a = k := by omega
    rw [← this]; exact ha
  · intro h; exact ⟨k, h, rfl⟩
theorem preI_snoc (l : List Nat) (k : Nat) : ints (preI (l ++ [k])) = ints (preI l) ++ [.int .i64 (k : Int)] := by simp [ints, preI]
theorem preI_len (l : List Nat) : (preI l).length = l.length := by simp [preI]
theorem nodes_at {ps : List Int} {ns : List Q} {nd : List Int} (h : areB ps ns nd = true) {j : Nat} {z : Int} (hz : nd[j]? = some z) : ∃ x : Nat, z = x ∧ x < ns.length ∧ lfN ns x < ps.length := by
  simp only [areB, Bool.and_eq_true] at h
  have := inNodes_iff.1 h.1 z (List.mem_of_getElem? hz)
  exact ⟨z.toNat, by omega, by omega, (lfN_ok h.2 (by omega) (by omega)).1⟩
theorem own_rdd {w : World} {lo : Nat} {e : TypeId} {size : Nat} {A : Option Addr} {n c : Nat} {xs : List Value} (h : w.ownsRow lo e size (.slice A n c) n xs) : Rd w A n size xs := by
  obtain ⟨A', c', he, hr⟩ := own_rd h
  injection he with h1 h2 h3
  rw [h1]; exact hr

set_option maxHeartbeats 4000000 in
theorem leaves_any (A B : Option Addr) (n c m d : Nat) (ps : List Int) (ns : List Q) (D : Option Addr) (k e : Nat) (nd : List Int) (w : World) (hn : n ≤ 1048576) (hm : m ≤ 1048576) (hr : Rd w A n 1 (ints ps)) (hq : Rd w B m 4 (flat ns)) (hl : ∀ g, A = some ⟨g, 0, none⟩ → g < w.heap.size) (hl2 : ∀ g, B = some ⟨g, 0, none⟩ → g < w.heap.size) (hk : k ≤ 1048576) (hd : Rd w D k 1 (ints nd)) (hl3 : ∀ g, D = some ⟨g, 0, none⟩ → g < w.heap.size) :
    Calls Try.prog 76 #[.agg #[.slice A n c, .slice B m d], .slice D k e] w fun e w' => e = .returned (.int .i64 (leavesV ps ns nd)) ∧ Below w.heap.size w w' := by
  obtain ⟨i0, hi, hz0, hz1, hz2⟩ := info_parts infoI
  have hpl := hr.ilen
  have hql : ns.length = m := by have := hq.1; rw [flat_len] at this; omega
  have hn9 : n ≤ 9223372036854775807 := by omega
  have hm9 : m ≤ 9223372036854775807 := by omega
  have HN := Lib.hid hn
  have HM := Lib.hid hm
  have HR := Lib.hid hr
  have HQ := Lib.hid hq
  have HL := Lib.hid hl
  have HL2 := Lib.hid hl2
  have HP := Lib.hid hpl
  have HQL := Lib.hid hql
  clear hn hm hr hq hl hl2 hpl hql
  have hdl := hd.ilen
  have hk9 : k ≤ 9223372036854775807 := by omega
  have HK := Lib.hid hk
  have HD := Lib.hid hd
  have HL3 := Lib.hid hl3
  have HDL := Lib.hid hdl
  clear hk hd hl3 hdl
  cases har : areB ps ns nd
  · have HF : Hid (leavesV ps ns nd = -1) := Lib.hid (by unfold leavesV; rw [har]; rfl)
    clear hz0 hz1 hz2 hi
    go_enter Try.func76, Try.ntmps76
    go_wp2_with fail
    refine (areNodes_any A B n c m d ps ns D k e nd _ HN.out HM.out (HR.out.below HL.out (by repeat (first | exact Below.refl _ _ | assumption | (refine bstep ?_ (below_drewN _ _)) | exact bstep (by assumption) (by assumption) | (refine bstep ?_ (below_alloc _ _)) | (refine bstep ?_ (by assumption)) | (refine Below.setCell ?_ (by simp <;> omega) _) | refine Below.drew ?_))) (HQ.out.below HL2.out (by repeat (first | exact Below.refl _ _ | assumption | (refine bstep ?_ (below_drewN _ _)) | exact bstep (by assumption) (by assumption) | (refine bstep ?_ (below_alloc _ _)) | (refine bstep ?_ (by assumption)) | (refine Below.setCell ?_ (by simp <;> omega) _) | refine Below.drew ?_))) (lt_below HL.out (by repeat (first | exact Below.refl _ _ | assumption | (refine bstep ?_ (below_drewN _ _)) | exact bstep (by assumption) (by assumption) | (refine bstep ?_ (below_alloc _ _)) | (refine bstep ?_ (by assumption)) | (refine Below.setCell ?_ (by simp <;> omega) _) | refine Below.drew ?_))) (lt_below HL2.out (by repeat (first | exact Below.refl _ _ | assumption | (refine bstep ?_ (below_drewN _ _)) | exact bstep (by assumption) (by assumption) | (refine bstep ?_ (below_alloc _ _)) | (refine bstep ?_ (by assumption)) | (refine Below.setCell ?_ (by simp <;> omega) _) | refine Below.drew ?_))) HK.out (HD.out.below HL3.out (by repeat (first | exact Below.refl _ _ | assumption | (refine bstep ?_ (below_drewN _ _)) | exact bstep (by assumption) (by assumption) | (refine bstep ?_ (below_alloc _ _)) | (refine bstep ?_ (by assumption)) | (refine Below.setCell ?_ (by simp <;> omega) _) | refine Below.drew ?_))) (lt_below HL3.out (by repeat (first | exact Below.refl _ _ | assumption | (refine bstep ?_ (below_drewN _ _)) | exact bstep (by assumption) (by assumption) | (refine bstep ?_ (below_alloc _ _)) | (refine bstep ?_ (by assumption)) | (refine Below.setCell ?_ (by simp <;> omega) _) | refine Below.drew ?_)))).mono ?_
    rintro e w1 ⟨rfl, hb1⟩
    rw [har]
    go_wp2
    go_ret
    exact ⟨ret_int HF.out.symm, (by repeat (first | exact Below.refl _ _ | assumption | (refine bstep ?_ (below_drewN _ _)) | exact bstep (by assumption) (by assumption) | (refine bstep ?_ (below_alloc _ _)) | (refine bstep ?_ (by assumption)) | (refine Below.setCell ?_ (by simp <;> omega) _) | refine Below.drew ?_))⟩
  · have HF : Hid (leavesV ps ns nd = ((dist (lfN ns) nd).length : Int)) := Lib.hid (by unfold leavesV; rw [har]; rfl)
    go_enter Try.func76, Try.ntmps76
    go_wp2_with fail
    refine (areNodes_any A B n c m d ps ns D k e nd _ HN.out HM.out (HR.out.below HL.out (by repeat (first | exact Below.refl _ _ | assumption | (refine bstep ?_ (below_drewN _ _)) | exact bstep (by assumption) (by assumption) | (refine bstep ?_ (below_alloc _ _)) | (refine bstep ?_ (by assumption)) | (refine Below.setCell ?_ (by simp <;> omega) _) | refine Below.drew ?_))) (HQ.out.below HL2.out (by repeat (first | exact Below.refl _ _ | assumption | (refine bstep ?_ (below_drewN _ _)) | exact bstep (by assumption) (by assumption) | (refine bstep ?_ (below_alloc _ _)) | (refine bstep ?_ (by assumption)) | (refine Below.setCell ?_ (by simp <;> omega) _) | refine Below.drew ?_))) (lt_below HL.out (by repeat (first | exact Below.refl _ _ | assumption | (refine bstep ?_ (below_drewN _ _)) | exact bstep (by assumption) (by assumption) | (refine bstep ?_ (below_alloc _ _)) | (refine bstep ?_ (by assumption)) | (refine Below.setCell ?_ (by simp <;> omega) _) | refine Below.drew ?_))) (lt_below HL2.out (by repeat (first | exact Below.refl _ _ | assumption | (refine bstep ?_ (below_drewN _ _)) | exact bstep (by assumption) (by assumption) | (refine bstep ?_ (below_alloc _ _)) | (refine bstep ?_ (by assumption)) | (refine Below.setCell ?_ (by simp <;> omega) _) | refine Below.drew ?_))) HK.out (HD.out.below HL3.out (by repeat (first | exact Below.refl _ _ | assumption | (refine bstep ?_ (below_drewN _ _)) | exact bstep (by assumption) (by assumption) | (refine bstep ?_ (below_alloc _ _)) | (refine bstep ?_ (by assumption)) | (refine Below.setCell ?_ (by simp <;> omega) _) | refine Below.drew ?_))) (lt_below HL3.out (by repeat (first | exact Below.refl _ _ | assumption | (refine bstep ?_ (below_drewN _ _)) | exact bstep (by assumption) (by assumption) | (refine bstep ?_ (below_alloc _ _)) | (refine bstep ?_ (by assumption)) | (refine Below.setCell ?_ (by simp <;> omega) _) | refine Below.drew ?_)))).mono ?_
    rintro e w1 ⟨rfl, hb1⟩
    rw [har]
    have HAR := Lib.hid har
    have hs1 := hb1.size
    (try simp at hs1)
    have hk10 := fun o => hb1.cell (p := ⟨w.heap.size, o, none⟩) (by simp)
    have hy10 : w.heap.size < w1.heap.size := by omega
    clear har
    go_wp2
    go_loopw [5, 15] (fun v i wr => ∃ (j : Nat) (X : Option Addr) (cx : Nat), j ≤ k ∧ i = .int .i64 j ∧ v = .slice X (dist (lfN ns) (nd.take j)).length cx ∧ wr.ownsRow (w.heap.size + 1) 3 1 (.slice X (dist (lfN ns) (nd.take j)).length cx) (dist (lfN ns) (nd.take j)).length (ints (preI (dist (lfN ns) (nd.take j)))) ∧ Below w.heap.size w wr ∧ w.heap.size + 1 ≤ wr.heap.size ∧ wr.cell? ⟨w.heap.size, 0, none⟩ = some (.slice A n c) ∧ wr.cell? ⟨w.heap.size, 1, none⟩ = some (.slice B m d)) (fun _ i _ => k - (intOf i).toNat)
    case atStart =>
      refine ⟨0, some ⟨w1.heap.size, 0, none⟩, 0, Nat.zero_le _, rfl, rfl, own_lit (cs := []) (heap_at _ rfl) rfl (by show 0 ≤ maxLen; decide) (by omega), (by repeat (first | exact Below.refl _ _ | assumption | (refine bstep ?_ (below_drewN _ _)) | exact bstep (by assumption) (by assumption) | (refine bstep ?_ (below_alloc _ _)) | (refine bstep ?_ (by assumption)) | (refine Below.setCell ?_ (by simp <;> omega) _) | refine Below.drew ?_)), (by first | omega | (simp <;> omega)), ?_, ?_⟩
      · simp [go_sem, *, World.cell?_alloc_some]
      · simp [go_sem, *, World.cell?_alloc_some]
    case round =>
      obtain ⟨j, X, cx, hj, rfl, rfl, hown, hbw, hsz, bx0, bx1⟩ := hrel
      have hlen : (dist (lfN ns) (nd.take j)).length ≤ k := by have := dist_len (lfN ns) (nd.take j); simp at this; omega
      have HLE := Lib.hid hlen
      clear hlen
      by_cases hlt : j < k
      · have hlt' : (j : Int) < k := by omega
        obtain ⟨g, z, rfl, hz, d0⟩ := HD.out.int hlt
        have E0 := (hbw.cell (p := ⟨g, j, none⟩) (HL3.out g rfl)).trans d0
        obtain ⟨x, rfl, hxm, hlp⟩ := nodes_at HAR.out hz
        rw [HQL.out] at hxm
        obtain ⟨g', q, rfl, hqx, c0, c1, c2, c3⟩ := HQ.out.q hxm
        have hlf : q.t = (lfN ns x : Int) := by
          have ht : topoOkB ps ns = true := by have := HAR.out; simp only [areB, Bool.and_eq_true] at this; exact this.2
          obtain ⟨_, _, q', h1, h2, _⟩ := lfN_ok ht (x := (x : Int)) (by omega) (by rw [HQL.out]; omega)
          simp only [Int.toNat_natCast] at h1
          rw [hqx] at h1
          rw [Option.some.inj h1]; exact h2
        rw [hlf] at c0
        have hg' := HL2.out g' rfl
        have C0 := (hbw.cell (p := ⟨g', x * 4, none⟩) hg').trans c0
        have hgr' : g' < wr.heap.size := Nat.lt_of_lt_of_le hg' hbw.size
        have hxm' : (x : Int) < m := by omega
        have hxm0 : (0 : Int) ≤ (x : Int) := by omega
        have HS := Lib.hid (foldl_step (distF (lfN ns)) [] hz)
        have HB := Lib.hid hbw
        have HLF := Lib.hid hlf
        generalize hl9 : lfN ns x = lf at C0 c0 HLF
        have HL9 := Lib.hid hl9
        clear hz d0 hqx c0 c1 c2 c3 hbw hlf hl9
        go_wp2_with fail
        refine (contains_any X _ cx (preI (dist (lfN ns) (nd.take j))) (lf : Int) _ (by have := HLE.out; have := HK.out; omega) (own_rdd (own_bel hown (by repeat (first | exact Below.refl _ _ | assumption | (refine bstep ?_ (below_drewN _ _)) | exact bstep (by assumption) (by assumption) | (refine bstep ?_ (below_alloc _ _)) | (refine bstep ?_ (by assumption)) | (refine Below.setCell ?_ (by simp <;> omega) _) | refine Below.drew ?_))))).mono ?_
        rintro e w2 ⟨rfl, hw2⟩
        have hb2 := below_same hw2
        have hy20 : w.heap.size < w2.heap.size := by have := hb2.size; omega
        have hk20 := fun o => hb2.cell (p := ⟨w.heap.size, o, none⟩) (show w.heap.size < wr.heap.size by omega)
        have hk2g := fun o => hb2.cell (p := ⟨g', o, none⟩) hgr'
        have hown2 := own_bel hown hb2
        have hsz2 : w.heap.size + 1 ≤ w2.heap.size := by have := hb2.size; omega
        clear hw2
        cases hm : hasZ (preI (dist (lfN ns) (nd.take j))) (lf : Int)
        · have hnm : lf ∉ dist (lfN ns) (nd.take j) := fun h => by rw [preI_mem.2 h] at hm; cases hm
          have HE : Hid (dist (lfN ns) (nd.take (j + 1)) = dist (lfN ns) (nd.take j) ++ [lf]) := Lib.hid (by unfold dist; rw [HS.out]; show distF (lfN ns) (dist (lfN ns) (nd.take j)) x = _; unfold distF; rw [HL9.out, if_neg hnm]; rfl)
          clear hnm hm
          go_wp2_with (at_builtin; refine wpList_append_own _ rfl _ _ 66 rfl (w.heap.size + 1) 3 i0 (.int .i64 0) 1 8 Try.underlying66 hi hz0 hz1 hz2 rfl (by decide) _ _ _ rfl (hown2.alloc _) ⟨w2.heap.size, 0, none⟩ 1 1 [.int .i64 (lf : Int)] rfl rfl ?c1 ?c2 ?c3 ?c4 ?c5 ?_)
          try case c1 =>
            intro j y hy
            match j, hy with
            | 0, hy => (simp at hy; subst hy; simp [Addr.add])
          try case c2 => simp [Value.oneCell']
          case c3 => unfold maxLen; have := HK.out; have := HLE.out; omega
          case c4 => have := HK.out; have := HLE.out; omega
          try case c5 => first | omega | (simp <;> omega)
          intro v' w3 hown3 hg3 _
          obtain ⟨X', cx', rfl, _⟩ := own_rd hown3
          have hgb := hg3.block w.heap.size (by simp <;> omega) (fun e => by have := own_ge hown2 _ e.symm; omega)
          have hs3 := hg3.size
          (try simp at hs3)
          have y0 := (World.cell?_of_block (a := ⟨w.heap.size, 0, none⟩) hgb).trans (((below_alloc w2 _).cell (p := ⟨w.heap.size, 0, none⟩) hy20).trans ((hk20 0).trans bx0))
          have y1 := (World.cell?_of_block (a := ⟨w.heap.size, 1, none⟩) hgb).trans (((below_alloc w2 _).cell (p := ⟨w.heap.size, 1, none⟩) hy20).trans ((hk20 1).trans bx1))
          have hB3 : Below w.heap.size w w3 := Below.grown ((bstep HB.out hb2).alloc (by have := HB.out.size; have := hb2.size; omega) _) hg3 (by simp; have := HB.out.size; have := hb2.size; omega) (fun k hk => by have := own_ge hown2 k hk; omega)
          have HO3 := Lib.hid hown3
          clear hown3 hgb hg3 hz0 hz1 hz2 hi hown hown2
          go_wp2
          go_roundw
          case rel =>
            refine ⟨j + 1, X', cx', by omega, by go_num, ?_, ?_, hB3, by omega, y0, y1⟩
            · rw [HE.out, List.length_append]; rfl
            · rw [HE.out, preI_snoc, List.length_append]; exact HO3.out
          case measure => simp [intOf]; omega
        · have hnm : lf ∈ dist (lfN ns) (nd.take j) := preI_mem.1 hm
          have HE : Hid (dist (lfN ns) (nd.take (j + 1)) = dist (lfN ns) (nd.take j)) := Lib.hid (by unfold dist; rw [HS.out]; show distF (lfN ns) (dist (lfN ns) (nd.take j)) x = _; unfold distF; rw [HL9.out, if_pos hnm]; rfl)
          clear hnm hm hz0 hz1 hz2 hi
          go_wp2
          go_roundw
          case rel =>
            refine ⟨j + 1, X, cx, by omega, by go_num, ?_, ?_, bstep HB.out hb2, by omega, (hk20 0).trans bx0, (hk20 1).trans bx1⟩
            · rw [HE.out]
            · rw [HE.out]; exact hown2
          case measure => simp [intOf]; omega
      · have hj9 : nd.take j = nd := take_all (by have := HDL.out; omega)
        have HG : Hid ((dist (lfN ns) (nd.take j)).length = (dist (lfN ns) nd).length) := Lib.hid (by rw [hj9])
        have HB := Lib.hid hbw
        clear hj9 hbw hown hz0 hz1 hz2 hi
        go_wp2
        go_ret
        exact ⟨ret_int (by rw [HF.out, HG.out]), HB.out⟩

set_option maxHeartbeats 4000000 in
theorem sleaves_any (A B : Option Addr) (n c m d : Nat) (ps : List Int) (ns : List Q) (D : Option Addr) (k e : Nat) (nd : List Int) (w : World) (hn : n ≤ 1048576) (hm : m ≤ 1048576) (hr : Rd w A n 1 (ints ps)) (hq : Rd w B m 4 (flat ns)) (hl : ∀ g, A = some ⟨g, 0, none⟩ → g < w.heap.size) (hl2 : ∀ g, B = some ⟨g, 0, none⟩ → g < w.heap.size) (hk : k ≤ 1048576) (hd : Rd w D k 1 (ints nd)) (hl3 : ∀ g, D = some ⟨g, 0, none⟩ → g < w.heap.size) :
    Calls Try.prog 74 #[.agg #[.slice A n c, .slice B m d], .slice D k e] w fun e w' => e = .returned (.int .i64 (leavesV ps ns nd)) ∧ Below w.heap.size w w' := by
  obtain ⟨i0, hi, hz0, hz1, hz2⟩ := info_parts infoI
  have hpl := hr.ilen
  have hql : ns.length = m := by have := hq.1; rw [flat_len] at this; omega
  have hn9 : n ≤ 9223372036854775807 := by omega
  have hm9 : m ≤ 9223372036854775807 := by omega
  have HN := Lib.hid hn
  have HM := Lib.hid hm
  have HR := Lib.hid hr
  have HQ := Lib.hid hq
  have HL := Lib.hid hl
  have HL2 := Lib.hid hl2
  have HP := Lib.hid hpl
  have HQL := Lib.hid hql
  clear hn hm hr hq hl hl2 hpl hql
  have hdl := hd.ilen
  have hk9 : k ≤ 9223372036854775807 := by omega
  have HK := Lib.hid hk
  have HD := Lib.hid hd
  have HL3 := Lib.hid hl3
  have HDL := Lib.hid hdl
  clear hk hd hl3 hdl
  cases har : areB ps ns nd
  · have HF : Hid (leavesV ps ns nd = -1) := Lib.hid (by unfold leavesV; rw [har]; rfl)
    clear hz0 hz1 hz2 hi
    go_enter Try.func74, Try.ntmps74
    go_wp2_with fail
    refine (sNodes_any A B n c m d ps ns D k e nd _ HN.out HM.out (HR.out.below HL.out (by repeat (first | exact Below.refl _ _ | assumption | (refine bstep ?_ (below_drewN _ _)) | exact bstep (by assumption) (by assumption) | (refine bstep ?_ (below_alloc _ _)) | (refine bstep ?_ (by assumption)) | (refine Below.setCell ?_ (by simp <;> omega) _) | refine Below.drew ?_))) (HQ.out.below HL2.out (by repeat (first | exact Below.refl _ _ | assumption | (refine bstep ?_ (below_drewN _ _)) | exact bstep (by assumption) (by assumption) | (refine bstep ?_ (below_alloc _ _)) | (refine bstep ?_ (by assumption)) | (refine Below.setCell ?_ (by simp <;> omega) _) | refine Below.drew ?_))) (lt_below HL.out (by repeat (first | exact Below.refl _ _ | assumption | (refine bstep ?_ (below_drewN _ _)) | exact bstep (by assumption) (by assumption) | (refine bstep ?_ (below_alloc _ _)) | (refine bstep ?_ (by assumption)) | (refine Below.setCell ?_ (by simp <;> omega) _) | refine Below.drew ?_))) (lt_below HL2.out (by repeat (first | exact Below.refl _ _ | assumption | (refine bstep ?_ (below_drewN _ _)) | exact bstep (by assumption) (by assumption) | (refine bstep ?_ (below_alloc _ _)) | (refine bstep ?_ (by assumption)) | (refine Below.setCell ?_ (by simp <;> omega) _) | refine Below.drew ?_))) HK.out (HD.out.below HL3.out (by repeat (first | exact Below.refl _ _ | assumption | (refine bstep ?_ (below_drewN _ _)) | exact bstep (by assumption) (by assumption) | (refine bstep ?_ (below_alloc _ _)) | (refine bstep ?_ (by assumption)) | (refine Below.setCell ?_ (by simp <;> omega) _) | refine Below.drew ?_))) (lt_below HL3.out (by repeat (first | exact Below.refl _ _ | assumption | (refine bstep ?_ (below_drewN _ _)) | exact bstep (by assumption) (by assumption) | (refine bstep ?_ (below_alloc _ _)) | (refine bstep ?_ (by assumption)) | (refine Below.setCell ?_ (by simp <;> omega) _) | refine Below.drew ?_)))).mono ?_
    rintro e w1 ⟨rfl, hb1⟩
    rw [har]
    go_wp2
    go_ret
    exact ⟨ret_int HF.out.symm, (by repeat (first | exact Below.refl _ _ | assumption | (refine bstep ?_ (below_drewN _ _)) | exact bstep (by assumption) (by assumption) | (refine bstep ?_ (below_alloc _ _)) | (refine bstep ?_ (by assumption)) | (refine Below.setCell ?_ (by simp <;> omega) _) | refine Below.drew ?_))⟩
  · have HF : Hid (leavesV ps ns nd = ((dist (lfN ns) nd).length : Int)) := Lib.hid (by unfold leavesV; rw [har]; rfl)
    go_enter Try.func74, Try.ntmps74
    go_wp2_with fail
    refine (sNodes_any A B n c m d ps ns D k e nd _ HN.out HM.out (HR.out.below HL.out (by repeat (first | exact Below.refl _ _ | assumption | (refine bstep ?_ (below_drewN _ _)) | exact bstep (by assumption) (by assumption) | (refine bstep ?_ (below_alloc _ _)) | (refine bstep ?_ (by assumption)) | (refine Below.setCell ?_ (by simp <;> omega) _) | refine Below.drew ?_))) (HQ.out.below HL2.out (by repeat (first | exact Below.refl _ _ | assumption | (refine bstep ?_ (below_drewN _ _)) | exact bstep (by assumption) (by assumption) | (refine bstep ?_ (below_alloc _ _)) | (refine bstep ?_ (by assumption)) | (refine Below.setCell ?_ (by simp <;> omega) _) | refine Below.drew ?_))) (lt_below HL.out (by repeat (first | exact Below.refl _ _ | assumption | (refine bstep ?_ (below_drewN _ _)) | exact bstep (by assumption) (by assumption) | (refine bstep ?_ (below_alloc _ _)) | (refine bstep ?_ (by assumption)) | (refine Below.setCell ?_ (by simp <;> omega) _) | refine Below.drew ?_))) (lt_below HL2.out (by repeat (first | exact Below.refl _ _ | assumption | (refine bstep ?_ (below_drewN _ _)) | exact bstep (by assumption) (by assumption) | (refine bstep ?_ (below_alloc _ _)) | (refine bstep ?_ (by assumption)) | (refine Below.setCell ?_ (by simp <;> omega) _) | refine Below.drew ?_))) HK.out (HD.out.below HL3.out (by repeat (first | exact Below.refl _ _ | assumption | (refine bstep ?_ (below_drewN _ _)) | exact bstep (by assumption) (by assumption) | (refine bstep ?_ (below_alloc _ _)) | (refine bstep ?_ (by assumption)) | (refine Below.setCell ?_ (by simp <;> omega) _) | refine Below.drew ?_))) (lt_below HL3.out (by repeat (first | exact Below.refl _ _ | assumption | (refine bstep ?_ (below_drewN _ _)) | exact bstep (by assumption) (by assumption) | (refine bstep ?_ (below_alloc _ _)) | (refine bstep ?_ (by assumption)) | (refine Below.setCell ?_ (by simp <;> omega) _) | refine Below.drew ?_)))).mono ?_
    rintro e w1 ⟨rfl, hb1⟩
    rw [har]
    have HAR := Lib.hid har
    have hs1 := hb1.size
    (try simp at hs1)
    have hk10 := fun o => hb1.cell (p := ⟨w.heap.size, o, none⟩) (by simp)
    have hy10 : w.heap.size < w1.heap.size := by omega
    clear har
    go_wp2
    go_loopw [5, 15] (fun v i wr => ∃ (j : Nat) (X : Option Addr) (cx : Nat), j ≤ k ∧ i = .int .i64 j ∧ v = .slice X (dist (lfN ns) (nd.take j)).length cx ∧ wr.ownsRow (w.heap.size + 1) 3 1 (.slice X (dist (lfN ns) (nd.take j)).length cx) (dist (lfN ns) (nd.take j)).length (ints (preI (dist (lfN ns) (nd.take j)))) ∧ Below w.heap.size w wr ∧ w.heap.size + 1 ≤ wr.heap.size ∧ wr.cell? ⟨w.heap.size, 0, none⟩ = some (.slice A n c) ∧ wr.cell? ⟨w.heap.size, 1, none⟩ = some (.slice B m d)) (fun _ i _ => k - (intOf i).toNat)
    case atStart =>
      refine ⟨0, some ⟨w1.heap.size, 0, none⟩, 0, Nat.zero_le _, rfl, rfl, own_lit (cs := []) (heap_at _ rfl) rfl (by show 0 ≤ maxLen; decide) (by omega), (by repeat (first | exact Below.refl _ _ | assumption | (refine bstep ?_ (below_drewN _ _)) | exact bstep (by assumption) (by assumption) | (refine bstep ?_ (below_alloc _ _)) | (refine bstep ?_ (by assumption)) | (refine Below.setCell ?_ (by simp <;> omega) _) | refine Below.drew ?_)), (by first | omega | (simp <;> omega)), ?_, ?_⟩
      · simp [go_sem, *, World.cell?_alloc_some]
      · simp [go_sem, *, World.cell?_alloc_some]
    case round =>
      obtain ⟨j, X, cx, hj, rfl, rfl, hown, hbw, hsz, bx0, bx1⟩ := hrel
      have hlen : (dist (lfN ns) (nd.take j)).length ≤ k := by have := dist_len (lfN ns) (nd.take j); simp at this; omega
      have HLE := Lib.hid hlen
      clear hlen
      by_cases hlt : j < k
      · have hlt' : (j : Int) < k := by omega
        obtain ⟨g, z, rfl, hz, d0⟩ := HD.out.int hlt
        have E0 := (hbw.cell (p := ⟨g, j, none⟩) (HL3.out g rfl)).trans d0
        obtain ⟨x, rfl, hxm, hlp⟩ := nodes_at HAR.out hz
        rw [HQL.out] at hxm
        obtain ⟨g', q, rfl, hqx, c0, c1, c2, c3⟩ := HQ.out.q hxm
        have hlf : q.t = (lfN ns x : Int) := by
          have ht : topoOkB ps ns = true := by have := HAR.out; simp only [areB, Bool.and_eq_true] at this; exact this.2
          obtain ⟨_, _, q', h1, h2, _⟩ := lfN_ok ht (x := (x : Int)) (by omega) (by rw [HQL.out]; omega)
          simp only [Int.toNat_natCast] at h1
          rw [hqx] at h1
          rw [Option.some.inj h1]; exact h2
        rw [hlf] at c0
        have hg' := HL2.out g' rfl
        have C0 := (hbw.cell (p := ⟨g', x * 4, none⟩) hg').trans c0
        have hgr' : g' < wr.heap.size := Nat.lt_of_lt_of_le hg' hbw.size
        have hxm' : (x : Int) < m := by omega
        have hxm0 : (0 : Int) ≤ (x : Int) := by omega
        have HS := Lib.hid (foldl_step (distF (lfN ns)) [] hz)
        have HB := Lib.hid hbw
        have HLF := Lib.hid hlf
        generalize hl9 : lfN ns x = lf at C0 c0 HLF
        have HL9 := Lib.hid hl9
        clear hz d0 hqx c0 c1 c2 c3 hbw hlf hl9
        go_wp2_with fail
        refine (shas_any X _ cx (preI (dist (lfN ns) (nd.take j))) (lf : Int) _ (by have := HLE.out; have := HK.out; omega) (own_rdd (own_bel hown (by repeat (first | exact Below.refl _ _ | assumption | (refine bstep ?_ (below_drewN _ _)) | exact bstep (by assumption) (by assumption) | (refine bstep ?_ (below_alloc _ _)) | (refine bstep ?_ (by assumption)) | (refine Below.setCell ?_ (by simp <;> omega) _) | refine Below.drew ?_))))).mono ?_
        rintro e w2 ⟨rfl, hw2⟩
        have hb2 := below_same hw2
        have hy20 : w.heap.size < w2.heap.size := by have := hb2.size; omega
        have hk20 := fun o => hb2.cell (p := ⟨w.heap.size, o, none⟩) (show w.heap.size < wr.heap.size by omega)
        have hk2g := fun o => hb2.cell (p := ⟨g', o, none⟩) hgr'
        have hown2 := own_bel hown hb2
        have hsz2 : w.heap.size + 1 ≤ w2.heap.size := by have := hb2.size; omega
        clear hw2
        cases hm : hasZ (preI (dist (lfN ns) (nd.take j))) (lf : Int)
        · have hnm : lf ∉ dist (lfN ns) (nd.take j) := fun h => by rw [preI_mem.2 h] at hm; cases hm
          have HE : Hid (dist (lfN ns) (nd.take (j + 1)) = dist (lfN ns) (nd.take j) ++ [lf]) := Lib.hid (by unfold dist; rw [HS.out]; show distF (lfN ns) (dist (lfN ns) (nd.take j)) x = _; unfold distF; rw [HL9.out, if_neg hnm]; rfl)
          clear hnm hm
          go_wp2_with (at_builtin; refine wpList_append_own _ rfl _ _ 66 rfl (w.heap.size + 1) 3 i0 (.int .i64 0) 1 8 Try.underlying66 hi hz0 hz1 hz2 rfl (by decide) _ _ _ rfl (hown2.alloc _) ⟨w2.heap.size, 0, none⟩ 1 1 [.int .i64 (lf : Int)] rfl rfl ?c1 ?c2 ?c3 ?c4 ?c5 ?_)
          try case c1 =>
            intro j y hy
            match j, hy with
            | 0, hy => (simp at hy; subst hy; simp [Addr.add])
          try case c2 => simp [Value.oneCell']
          case c3 => unfold maxLen; have := HK.out; have := HLE.out; omega
          case c4 => have := HK.out; have := HLE.out; omega
          try case c5 => first | omega | (simp <;> omega)
          intro v' w3 hown3 hg3 _
          obtain ⟨X', cx', rfl, _⟩ := own_rd hown3
          have hgb := hg3.block w.heap.size (by simp <;> omega) (fun e => by have := own_ge hown2 _ e.symm; omega)
          have hs3 := hg3.size
          (try simp at hs3)
          have y0 := (World.cell?_of_block (a := ⟨w.heap.size, 0, none⟩) hgb).trans (((below_alloc w2 _).cell (p := ⟨w.heap.size, 0, none⟩) hy20).trans ((hk20 0).trans bx0))
          have y1 := (World.cell?_of_block (a := ⟨w.heap.size, 1, none⟩) hgb).trans (((below_alloc w2 _).cell (p := ⟨w.heap.size, 1, none⟩) hy20).trans ((hk20 1).trans bx1))
          have hB3 : Below w.heap.size w w3 := Below.grown ((bstep HB.out hb2).alloc (by have := HB.out.size; have := hb2.size; omega) _) hg3 (by simp; have := HB.out.size; have := hb2.size; omega) (fun k hk => by have := own_ge hown2 k hk; omega)
          have HO3 := Lib.hid hown3
          clear hown3 hgb hg3 hz0 hz1 hz2 hi hown hown2
          go_wp2
          go_roundw
          case rel =>
            refine ⟨j + 1, X', cx', by omega, by go_num, ?_, ?_, hB3, by omega, y0, y1⟩
            · rw [HE.out, List.length_append]; rfl
            · rw [HE.out, preI_snoc, List.length_append]; exact HO3.out
          case measure => simp [intOf]; omega
        · have hnm : lf ∈ dist (lfN ns) (nd.take j) := preI_mem.1 hm
          have HE : Hid (dist (lfN ns) (nd.take (j + 1)) = dist (lfN ns) (nd.take j)) := Lib.hid (by unfold dist; rw [HS.out]; show distF (lfN ns) (dist (lfN ns) (nd.take j)) x = _; unfold distF; rw [HL9.out, if_pos hnm]; rfl)
          clear hnm hm hz0 hz1 hz2 hi
          go_wp2
          go_roundw
          case rel =>
            refine ⟨j + 1, X, cx, by omega, by go_num, ?_, ?_, bstep HB.out hb2, by omega, (hk20 0).trans bx0, (hk20 1).trans bx1⟩
            · rw [HE.out]
            · rw [HE.out]; exact hown2
          case measure => simp [intOf]; omega
      · have hj9 : nd.take j = nd := take_all (by have := HDL.out; omega)
        have HG : Hid ((dist (lfN ns) (nd.take j)).length = (dist (lfN ns) nd).length) := Lib.hid (by rw [hj9])
        have HB := Lib.hid hbw
        clear hj9 hbw hown hz0 hz1 hz2 hi
        go_wp2
        go_ret
        exact ⟨ret_int (by rw [HF.out, HG.out]), HB.out⟩
end Go.Proofs.Ytjnfdcojccgfoaa
