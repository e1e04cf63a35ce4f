/-
  A drawn topology that may be wrong.
-/
import Derived.Test.YtpfcegjomdppmaaDy
namespace Go.Proofs.Ytpfcegjomdppmaa
set_option linter.unusedSimpArgs false
set_option linter.unusedVariables false
set_option linter.unnecessarySimpa false
open Go.RowKit
theorem own_put {w : World} {lo : Nat} {e : TypeId} {size g n c i : Nat} {xs : List Value} {u : Value} (h : w.ownsRow lo e size (.slice (some ⟨g, 0, none⟩) n c) n xs) (_ : i < n * size) : (w.setCell ⟨g, i, none⟩ u).ownsRow lo e size (.slice (some ⟨g, 0, none⟩) n c) n (xs.set i u) := by
  obtain ⟨hl, h⟩ := h
  rcases h with ⟨hv, _⟩ | ⟨g', cap, cur, hv, hg, hh, h1, h2, h3, h4⟩
  · injection hv with a1; cases a1
  · injection hv with a1 a2 a3
    injection a1 with a1
    injection a1 with a1
    subst a1 a3
    refine ⟨by simpa using hl, Or.inr ⟨g, c, cur.setIfInBounds i u, rfl, hg, heap_set hh, h1, h2, by simpa using h3, ?_⟩⟩
    rw [Array.toList_setIfInBounds, ← h4, List.take_set]
theorem own_frz {w : World} {lo : Nat} {e : TypeId} {size g n c : Nat} {xs : List Value} (h : w.ownsRow lo e size (.slice (some ⟨g, 0, none⟩) n c) n xs) : ∀ o, w.frozen? ⟨g, o, none⟩ = false := by
  rcases h.2 with ⟨hv, _⟩ | ⟨g', cap, cur, hv, hg, hh, _⟩
  · injection hv with a1; cases a1
  · injection hv with a1 a2 a3
    injection a1 with a1
    injection a1 with a1
    subst a1
    exact fun _ => frozen_of_heap hh
theorem ints_set (ps : List Int) (i : Nat) (x : Int) : (ints ps).set i (.int .i64 x) = ints (ps.set i x) := by simp [ints, List.map_set]
/-- What is kept of a topology of the call's own, in a box. -/
structure JT (w wr : World) (g b0 b : Nat) (ps : List Int) (ns : List Q) (A B : Option Addr) (c d : Nat) : Prop where
  bx : wr.heap[b]? = some (.cells #[.slice A ps.length c, .slice B ns.length d] 26 (0, 0))
  oa : wr.ownsRow w.heap.size 3 1 (.slice A ps.length c) ps.length (ints ps)
  ob : wr.ownsRow w.heap.size 103 4 (.slice B ns.length d) ns.length (flat ns)
  res : wr.heap[b0]? = some (.cells #[.slice none 0 0, .slice none 0 0] 26 (0, 0))
  cur : Cur wr g
  fr : Fr (· = g) w wr
  hb : b0 < b ∧ w.heap.size ≤ b0 ∧ g < w.heap.size
theorem JT.bel {w wr w' : World} {g b0 b : Nat} {ps : List Int} {ns : List Q} {A B : Option Addr} {c d : Nat} (h : JT w wr g b0 b ps ns A B c d) (hb : Below wr.heap.size wr w') : JT w w' g b0 b ps ns A B c d :=
  ⟨bx_below h.bx hb, own_bel h.oa hb, own_bel h.ob hb, bx_below h.res hb, h.cur.below hb, h.fr.of_bel hb, h.hb⟩
theorem JT.cs {w wr w' : World} {g b0 b : Nat} {ps : List Int} {ns : List Q} {A B : Option Addr} {c d : Nat} (h : JT w wr g b0 b ps ns A B c d) (hf : Fr (· = g) wr w') (hc : Cur w' g) : JT w w' g b0 b ps ns A B c d := by
  have hh := h.hb
  exact ⟨bx_fr h.bx hf (by omega), own_fr h.oa hf (fun k hk e => by have := own_ge h.oa k hk; omega), own_fr h.ob hf (fun k hk e => by have := own_ge h.ob k hk; omega), bx_fr h.res hf (by omega), hc, h.fr.trans hf, hh⟩
theorem JT.seti {w wr : World} {g b0 b g1 : Nat} {ps : List Int} {ns : List Q} {B : Option Addr} {c d : Nat} (h : JT w wr g b0 b ps ns (some ⟨g1, 0, none⟩) B c d) {i : Nat} (hi : i < ps.length) (x : Int) : JT w (wr.setCell ⟨g1, i, none⟩ (.int .i64 x)) g b0 b (ps.set i x) ns (some ⟨g1, 0, none⟩) B c d := by
  have hh := h.hb
  have hg1 := own_ge h.oa g1 rfl
  have hl : (ps.set i x).length = ps.length := by simp
  refine ⟨?_, ?_, own_set h.ob (fun k hk e => own_ap h.ob h.oa (by decide) k hk (by rw [e]; rfl)) _, bx_set h.res (fun e => own_ne h.oa h.res (by decide) g1 rfl e.symm) _, h.cur.set (by show g < g1; omega) _, h.fr.setCell (Or.inr hg1) _, hh⟩
  · rw [hl]; exact bx_set h.bx (fun e => own_ne h.oa h.bx (by decide) g1 rfl e.symm) _
  · rw [hl, ← ints_set]; exact own_put h.oa (by omega)
theorem JT.setn {w wr : World} {g b0 b g1 : Nat} {ps : List Int} {ns ns' : List Q} {A : Option Addr} {c d : Nat} (h : JT w wr g b0 b ps ns A (some ⟨g1, 0, none⟩) c d) {i : Nat} (hi : i < ns.length * 4) {u : Value} (hl : ns'.length = ns.length) (hn : (flat ns).set i u = flat ns') : JT w (wr.setCell ⟨g1, i, none⟩ u) g b0 b ps ns' A (some ⟨g1, 0, none⟩) c d := by
  have hh := h.hb
  have hg1 := own_ge h.ob g1 rfl
  refine ⟨?_, own_set h.oa (fun k hk e => own_ap h.oa h.ob (by decide) k hk (by rw [e]; rfl)) _, ?_, bx_set h.res (fun e => own_ne h.ob h.res (by decide) g1 rfl e.symm) _, h.cur.set (by show g < g1; omega) _, h.fr.setCell (Or.inr hg1) _, hh⟩
  · rw [hl]; exact bx_set h.bx (fun e => own_ne h.ob h.bx (by decide) g1 rfl e.symm) _
  · rw [hl, ← hn]; exact own_put h.ob hi
/-- A switch more. -/
theorem JT.put {w wr w1 : World} {g b0 b : Nat} {ps : List Int} {ns : List Q} {A B : Option Addr} {c d : Nat} (h : JT w wr g b0 b ps ns A B c d) {x : Int} {v : Value}
    (hv : w1.ownsRow w.heap.size 3 1 v (ps.length + 1) (ints ps ++ [.int .i64 x])) (hg : wr.grownBy w1 (Value.slice A ps.length c).ownBlock) :
    ∃ A' c', JT w (w1.setCell ⟨b, 0, none⟩ v) g b0 b (ps ++ [x]) ns A' B c' d := by
  obtain ⟨A', c', rfl, _⟩ := own_rd hv
  have hh := h.hb
  have hl : (ps ++ [x]).length = ps.length + 1 := by simp
  have hrow : ∀ k, (Value.slice A ps.length c).ownBlock = some k → w.heap.size ≤ k := fun k hk => own_ge h.oa k hk
  have e1 := bx_grown h.bx hg (fun k hk => own_ne h.oa h.bx (by decide) k hk)
  have e3 : w1.ownsRow w.heap.size 103 4 (.slice B ns.length d) ns.length (flat ns) := own_grown h.ob hg (fun k hk e => by
    have q1 := own_ap h.oa h.ob (by decide) k e
    exact q1 hk)
  refine ⟨A', c', ?_, ?_, own_set e3 (own_ne e3 e1 (by decide)) _, bx_set (bx_grown h.res hg (fun k hk => own_ne h.oa h.res (by decide) k hk)) (by show b0 ≠ b; omega) _, (h.cur.grown hg (fun k hk => by have := hrow k hk; omega)).set (by show g < b; omega) _, (h.fr.grown hg hrow).setCell (Or.inr (by show w.heap.size ≤ b; omega)) _, hh⟩
  · rw [hl]; exact topo_set0 e1 _
  · rw [hl, ints_snoc]; exact own_set hv (own_ne hv e1 (by decide)) _
/-- No switch. -/
theorem JT.none0 {w wr : World} {g b0 b : Nat} {ps : List Int} {ns : List Q} {A B : Option Addr} {c d : Nat} (h : JT w wr g b0 b ps ns A B c d) : JT w (wr.setCell ⟨b, 0, none⟩ (.slice none 0 0)) g b0 b [] ns none B 0 d := by
  have hh := h.hb
  exact ⟨topo_set0 h.bx _, own_nil _ _ _ _, own_set h.ob (own_ne h.ob h.bx (by decide)) _, bx_set h.res (by show b0 ≠ b; omega) _, h.cur.set (by show g < b; omega) _, h.fr.setCell (Or.inr (by show w.heap.size ≤ b; omega)) _, hh⟩
def rB1 (g : Nat) : Value → World → Prop := fun u w => ∃ (k : Nat) (y : Int), u = .slice (some ⟨k, 0, none⟩) 1 1 ∧ w.heap[k]? = some (.cells #[.int .i64 y] 3 (0, 0)) ∧ g < k
theorem rB1_fr {g : Nat} {u : Value} {w w' : World} (h : rB1 g u w) (hf : Fr (· = g) w w') : rB1 g u w' := by
  obtain ⟨k, y, h1, h2, h3⟩ := h
  exact ⟨k, y, h1, bx_fr h2 hf (by show ¬ _ = _; omega), h3⟩
def rX : Value → World → Prop := fun u _ => ∃ x : Int, u = .int .i64 x

set_option maxHeartbeats 8000000 in
set_option maxRecDepth 20000 in
theorem cur_topoAny (g : Nat) (w : World) (h : Cur w g) :
    Calls Try.prog 57 #[.pointer (some ⟨g, 0, none⟩)] w fun e w' => ∃ (A B : Option Addr) (c d : Nat) (ps : List Int) (ns : List Q), e = .returned (.agg #[.slice A ps.length c, .slice B ns.length d]) ∧ ps.length ≤ 19 ∧ ns.length ≤ 10 ∧ w'.ownsRow w.heap.size 3 1 (.slice A ps.length c) ps.length (ints ps) ∧ w'.ownsRow w.heap.size 103 4 (.slice B ns.length d) ns.length (flat ns) ∧ Cur w' g ∧ Fr (· = g) w w' := by
  have C := Lib.hid h
  have hgw := h.lt
  clear h
  go_enter Try.func57, Try.ntmps57
  go_wp2_with fail
  refine (cur_topo g _ (by repeat (first | exact C.out | refine Cur.alloc ?_ _ | refine Cur.drewN ?_ _ | refine Cur.drew ?_ | refine Cur.set ?_ (by simp <;> omega) _))).mono ?_
  rintro e w1 ⟨A, B, c, d, ps, ns, rfl, hp1, hp2, hn2, oa, ob, cu1, fr1⟩
  have hs1 := fr1.size
  (try simp at hs1)
  have hy10 : w.heap.size < w1.heap.size := by omega
  have hk10 := fun o => fr1.cell (b := w.heap.size) (by first | omega | (simp <;> omega)) (by omega) o
  have hg10 := fun o => fr1.frozen (b := w.heap.size) (by first | omega | (simp <;> omega)) (by omega) o
  have C1 := Lib.hid cu1
  have hgl1 := cu1.lt
  clear cu1
  have T0 : Hid (JT w (w1.alloc (.cells #[.slice A ps.length c, .slice B ns.length d] 26)) g w.heap.size w1.heap.size ps ns A B c d) := Lib.hid (by
    have hal := below_alloc w1 (.cells #[.slice A ps.length c, .slice B ns.length d] 26)
    refine ⟨heap_at _ rfl, own_mono (own_bel oa hal) (by simp), own_mono (own_bel ob hal) (by simp), bx_alloc (bx_fr (heap_at (w := w) (.cells #[.slice none 0 0, .slice none 0 0] 26) rfl) fr1 (by show ¬ _ = _; omega)) _, C1.out.alloc _, ?_, by omega⟩
    exact (((Fr.refl _ w).alloc _).trans fr1).alloc _)
  clear hk10 hg10 fr1 oa ob
  go_upto_region 2 with fail
  obtain ⟨bb, hbb⟩ : ∃ k, k = w1.heap.size := ⟨_, rfl⟩
  rw [← hbb] at T0 ⊢
  generalize w1.alloc (.cells #[.slice A ps.length c, .slice B ns.length d] 26) = w2 at *
  clear hbb hs1 hy10 hgl1 C1
  go_wp2_with fail
  refine (cur_below g 14 _ T0.out.cur (by omega) (by omega)).mono ?_
  rintro e w3 ⟨k, rfl, ka, kb, cu3, fr3⟩
  have T := Lib.hid (T0.out.cs fr3 cu3)
  clear fr3 cu3 T0
  have k0 := bx_cell T.out.bx 0 rfl
  have k1 := bx_cell T.out.bx 1 rfl
  have kf := bx_frz T.out.bx
  have r0 := bx_cell T.out.res 0 rfl
  have r1 := bx_cell T.out.res 1 rfl
  have rf := bx_frz T.out.res
  have hlb := heap_lt T.out.bx
  simp only [List.getElem_toArray, List.getElem_cons_zero, List.getElem_cons_succ] at k0 k1 r0 r1
  by_cases e0 : k = 0
  · subst e0
    go_upto_region 4 with fail
    refine wp_region_tail 9 (fun w9 => JT w w9 g w.heap.size bb ps ns A B c d) (Fr (· = g)) (by kernel_rfl) (by kernel_rfl) (T.out.bel (below_drewN _ 1)) ?_
    clear k0 k1 kf r0 r1 rf hlb
    show Det _ _ _ _ _ _ (_ :: _ :: _ :: _ :: _ :: _ :: _ :: _ :: _ :: []) _ _
    refine Det.val ?_ rfl ?_ (Fr.refl _) ?_
    rotate_left
    · intro f w9 hJ
      have k0 := bx_cell hJ.bx 0 rfl; have k1 := bx_cell hJ.bx 1 rfl; have kf := bx_frz hJ.bx; simp only [List.getElem_toArray, List.getElem_cons_zero, List.getElem_cons_succ] at k0 k1
      go_simp
      with_reducible rfl
    (try simp only [putA, List.setIfInBounds_toArray, List.set_cons_zero, List.set_cons_succ, Option.getD_some])
    refine Det.val ?_ rfl ?_ (Fr.refl _) ?_
    rotate_left
    · intro f w9 hJ
      have k0 := bx_cell hJ.bx 0 rfl; have k1 := bx_cell hJ.bx 1 rfl; have kf := bx_frz hJ.bx; simp only [List.getElem_toArray, List.getElem_cons_zero, List.getElem_cons_succ] at k0 k1
      go_simp
      with_reducible rfl
    (try simp only [putA, List.setIfInBounds_toArray, List.set_cons_zero, List.set_cons_succ, Option.getD_some])
    refine Det.val ?_ rfl ?_ (Fr.refl _) ?_
    rotate_left
    · intro f w9 hJ
      have k0 := bx_cell hJ.bx 0 rfl; have k1 := bx_cell hJ.bx 1 rfl; have kf := bx_frz hJ.bx; simp only [List.getElem_toArray, List.getElem_cons_zero, List.getElem_cons_succ] at k0 k1
      go_simp
      with_reducible rfl
    (try simp only [putA, List.setIfInBounds_toArray, List.set_cons_zero, List.set_cons_succ, Option.getD_some])
    refine Det.val ?_ rfl ?_ (Fr.refl _) ?_
    rotate_left
    · intro f w9 hJ
      have k0 := bx_cell hJ.bx 0 rfl; have k1 := bx_cell hJ.bx 1 rfl; have kf := bx_frz hJ.bx; simp only [List.getElem_toArray, List.getElem_cons_zero, List.getElem_cons_succ] at k0 k1
      go_simp
      with_reducible rfl
    (try simp only [putA, List.setIfInBounds_toArray, List.set_cons_zero, List.set_cons_succ, Option.getD_some])
    refine Det.val ?_ rfl ?_ (Fr.refl _) ?_
    rotate_left
    · intro f w9 hJ
      have k0 := bx_cell hJ.bx 0 rfl; have k1 := bx_cell hJ.bx 1 rfl; have kf := bx_frz hJ.bx; simp only [List.getElem_toArray, List.getElem_cons_zero, List.getElem_cons_succ] at k0 k1
      go_simp
      with_reducible rfl
    (try simp only [putA, List.setIfInBounds_toArray, List.set_cons_zero, List.set_cons_succ, Option.getD_some])
    refine Det.val ?_ rfl ?_ (Fr.refl _) ?_
    rotate_left
    · intro f w9 hJ
      have k0 := bx_cell hJ.bx 0 rfl; have k1 := bx_cell hJ.bx 1 rfl; have kf := bx_frz hJ.bx; simp only [List.getElem_toArray, List.getElem_cons_zero, List.getElem_cons_succ] at k0 k1
      go_simp
      with_reducible rfl
    (try simp only [putA, List.setIfInBounds_toArray, List.set_cons_zero, List.set_cons_succ, Option.getD_some])
    refine Det.flo (rI 0 (ps.length - 1)) rfl rfl (fun _ _ _ h _ => h) ?_ ?_
    · intro f w9 K hJ hR hK
      have HK := Lib.hid hK
      clear hK hR
      go_simp
      go_at_call 56
      refine (cur_below g (ps.length : Int) _ hJ.cur (by omega) (by omega)).mono ?_
      rintro e w10 ⟨x, rfl, h0, h1, cu, fr⟩
      exact HK.out _ _ (hJ.cs fr cu) fr ⟨x, rfl, by omega, by omega⟩
    (try simp only [putA, List.setIfInBounds_toArray, List.set_cons_zero, List.set_cons_succ, Option.getD_some])
    refine Det.val ?_ rfl ?_ (Fr.refl _) ?_
    rotate_left
    · intro f w9 hJ
      skip
      go_simp
      with_reducible rfl
    (try simp only [putA, List.setIfInBounds_toArray, List.set_cons_zero, List.set_cons_succ, Option.getD_some])
    refine Det.flo (rX) rfl rfl (fun _ _ _ h _ => h) ?_ ?_
    · intro f w9 K hJ hR hK
      have HK := Lib.hid hK
      clear hK hR
      go_simp
      go_at_call 58
      refine (cur_raw g _ hJ.cur).mono ?_
      rintro e w10 ⟨x, rfl, _, cu, fr⟩
      exact HK.out _ _ (hJ.cs fr cu) fr ⟨x, rfl⟩
    (try simp only [putA, List.setIfInBounds_toArray, List.set_cons_zero, List.set_cons_succ, Option.getD_some])
    refine Det.nil ?_
    intro f w9 hJ hR
    obtain ⟨y, hy, y0, y1⟩ := hR (17, rI 0 (ps.length - 1)) (by simp [addF, dropF])
    obtain ⟨z, hz⟩ := hR (19, rX) (by simp [addF, dropF])
    clear hR
    simp only [hy, hz]
    clear hy hz
    obtain ⟨i, rfl⟩ : ∃ i : Nat, y = i := ⟨y.toNat, by omega⟩
    have hi : i < ps.length := by omega
    have hi' : (i : Int) < ps.length := by omega
    obtain ⟨g1, x, rfl, hx, cx⟩ := Rd.int (own_rdd' hJ.oa) hi
    have of := own_frz hJ.oa
    have T4 := Lib.hid (hJ.seti hi z)
    clear hJ hx T
    show wpList _ _ _ (_ :: _ :: []) _ _
    go_upto_region 5 with fail
    clear cx of
    generalize w9.setCell _ _ = w4 at *
    have k0 := bx_cell T4.out.bx 0 rfl
    have k1 := bx_cell T4.out.bx 1 rfl
    have kf := bx_frz T4.out.bx
    have r0 := bx_cell T4.out.res 0 rfl
    have r1 := bx_cell T4.out.res 1 rfl
    have rf := bx_frz T4.out.res
    have hlb := heap_lt T4.out.bx
    simp only [List.getElem_toArray, List.getElem_cons_zero, List.getElem_cons_succ] at k0 k1 r0 r1
    go_wp2
    (try go_light)
    refine bodyPost_ret (v := .agg #[.slice (some ⟨g1, 0, none⟩) (ps.set i z).length c, .slice B (ns).length d]) (by simp [results, Try.results57, go_sem, *]) rfl ?_
    refine ⟨(some ⟨g1, 0, none⟩), B, c, d, ps.set i z, ns, rfl, by (first | omega | (have h9 := hp2; simp at h9 ⊢; omega) | simp), by (first | omega | (have h9 := hn2; simp at h9 ⊢; omega) | simp), ?_, ?_, ?_, ?_⟩
    · exact own_set (own_set T4.out.oa (own_ne T4.out.oa T4.out.res (by decide)) _) (own_ne T4.out.oa T4.out.res (by decide)) _
    · exact own_set (own_set T4.out.ob (own_ne T4.out.ob T4.out.res (by decide)) _) (own_ne T4.out.ob T4.out.res (by decide)) _
    · exact (T4.out.cur.set hgw _).set hgw _
    · exact (T4.out.fr.setCell (Or.inr (Nat.le_refl _)) _).setCell (Or.inr (Nat.le_refl _)) _
  by_cases e1 : k = 1
  · subst e1
    cases ns with
    | nil =>
      have hn' : ¬ (0 : Int) < ([] : List Q).length := by simp
      have k0 := bx_cell T.out.bx 0 rfl
      have k1 := bx_cell T.out.bx 1 rfl
      have kf := bx_frz T.out.bx
      have r0 := bx_cell T.out.res 0 rfl
      have r1 := bx_cell T.out.res 1 rfl
      have rf := bx_frz T.out.res
      have hlb := heap_lt T.out.bx
      simp only [List.getElem_toArray, List.getElem_cons_zero, List.getElem_cons_succ] at k0 k1 r0 r1
      go_wp2
      (try go_light)
      refine bodyPost_ret (v := .agg #[.slice A (ps).length c, .slice B 0 d]) (by simp [results, Try.results57, go_sem, *]) rfl ?_
      refine ⟨A, B, c, d, ps, ([] : List Q), rfl, by (first | omega | (have h9 := hp2; simp at h9 ⊢; omega) | simp), by (first | omega | (have h9 := hn2; simp at h9 ⊢; omega) | simp), ?_, ?_, ?_, ?_⟩
      · exact own_set (own_set T.out.oa (own_ne T.out.oa T.out.res (by decide)) _) (own_ne T.out.oa T.out.res (by decide)) _
      · exact own_set (own_set T.out.ob (own_ne T.out.ob T.out.res (by decide)) _) (own_ne T.out.ob T.out.res (by decide)) _
      · exact (T.out.cur.set hgw _).set hgw _
      · exact (T.out.fr.setCell (Or.inr (Nat.le_refl _)) _).setCell (Or.inr (Nat.le_refl _)) _
    | cons q r =>
      have hn' : (0 : Int) < (q :: r).length := by first | (simp; done) | (simp; omega)
      go_upto_region 6 with fail
      refine wp_region_tail 4 (fun w9 => JT w w9 g w.heap.size bb ps (q :: r) A B c d) (Fr (· = g)) (by kernel_rfl) (by kernel_rfl) (T.out.bel (below_drewN _ 1)) ?_
      clear k0 k1 kf r0 r1 rf hlb
      show Det _ _ _ _ _ _ (_ :: _ :: _ :: _ :: []) _ _
      refine Det.val ?_ rfl ?_ (Fr.refl _) ?_
      rotate_left
      · intro f w9 hJ
        have k0 := bx_cell hJ.bx 0 rfl; have k1 := bx_cell hJ.bx 1 rfl; have kf := bx_frz hJ.bx; simp only [List.getElem_toArray, List.getElem_cons_zero, List.getElem_cons_succ] at k0 k1
        go_simp
        with_reducible rfl
      (try simp only [putA, List.setIfInBounds_toArray, List.set_cons_zero, List.set_cons_succ, Option.getD_some])
      refine Det.val ?_ rfl ?_ (Fr.refl _) ?_
      rotate_left
      · intro f w9 hJ
        have k0 := bx_cell hJ.bx 0 rfl; have k1 := bx_cell hJ.bx 1 rfl; have kf := bx_frz hJ.bx; simp only [List.getElem_toArray, List.getElem_cons_zero, List.getElem_cons_succ] at k0 k1
        go_simp
        with_reducible rfl
      (try simp only [putA, List.setIfInBounds_toArray, List.set_cons_zero, List.set_cons_succ, Option.getD_some])
      refine Det.val ?_ rfl ?_ (Fr.refl _) ?_
      rotate_left
      · intro f w9 hJ
        skip
        go_simp
        with_reducible rfl
      (try simp only [putA, List.setIfInBounds_toArray, List.set_cons_zero, List.set_cons_succ, Option.getD_some])
      refine Det.flo (rX) rfl rfl (fun _ _ _ h _ => h) ?_ ?_
      · intro f w9 K hJ hR hK
        have HK := Lib.hid hK
        clear hK hR
        go_simp
        go_at_call 58
        refine (cur_raw g _ hJ.cur).mono ?_
        rintro e w10 ⟨x, rfl, _, cu, fr⟩
        exact HK.out _ _ (hJ.cs fr cu) fr ⟨x, rfl⟩
      (try simp only [putA, List.setIfInBounds_toArray, List.set_cons_zero, List.set_cons_succ, Option.getD_some])
      refine Det.nil ?_
      intro f w9 hJ hR
      obtain ⟨z, hz⟩ := hR (32, rX) (by simp [addF, dropF])
      clear hR
      simp only [hz]
      clear hz
      obtain ⟨g1, q', rfl, hq, d0, d1, d2, d3⟩ := Rd.q (own_rdd' hJ.ob) (k := 0) (by simp)
      have hqq : q' = q := by simpa using hq.symm
      subst hqq
      clear hq
      simp only [Nat.zero_mul, Nat.zero_add] at d0 d1 d2 d3
      have of := own_frz hJ.ob
      have hl0 : 0 < (q' :: r).length := by simp
      have T4 := Lib.hid (hJ.setn (i := 0) (ns' := ⟨z, q'.a, q'.b, q'.c⟩ :: r) (u := .int .i64 z) (by first | (simp; done) | (simp; omega)) rfl rfl)
      clear hJ T
      show wpList _ _ _ (_ :: _ :: _ :: []) _ _
      go_upto_region 7 with fail
      clear d0 d1 d2 d3 of
      generalize w9.setCell _ _ = w4 at *
      have k0 := bx_cell T4.out.bx 0 rfl
      have k1 := bx_cell T4.out.bx 1 rfl
      have kf := bx_frz T4.out.bx
      have r0 := bx_cell T4.out.res 0 rfl
      have r1 := bx_cell T4.out.res 1 rfl
      have rf := bx_frz T4.out.res
      have hlb := heap_lt T4.out.bx
      simp only [List.getElem_toArray, List.getElem_cons_zero, List.getElem_cons_succ] at k0 k1 r0 r1
      go_wp2
      (try go_light)
      refine bodyPost_ret (v := .agg #[.slice A (ps).length c, .slice (some ⟨g1, 0, none⟩) (⟨z, q'.a, q'.b, q'.c⟩ :: r).length d]) (by simp [results, Try.results57, go_sem, *]) rfl ?_
      refine ⟨A, (some ⟨g1, 0, none⟩), c, d, ps, ⟨z, q'.a, q'.b, q'.c⟩ :: r, rfl, by (first | omega | (have h9 := hp2; simp at h9 ⊢; omega) | simp), by (first | omega | (have h9 := hn2; simp at h9 ⊢; omega) | simp), ?_, ?_, ?_, ?_⟩
      · exact own_set (own_set T4.out.oa (own_ne T4.out.oa T4.out.res (by decide)) _) (own_ne T4.out.oa T4.out.res (by decide)) _
      · exact own_set (own_set T4.out.ob (own_ne T4.out.ob T4.out.res (by decide)) _) (own_ne T4.out.ob T4.out.res (by decide)) _
      · exact (T4.out.cur.set hgw _).set hgw _
      · exact (T4.out.fr.setCell (Or.inr (Nat.le_refl _)) _).setCell (Or.inr (Nat.le_refl _)) _
  by_cases e2 : k = 2
  · subst e2
    cases ns with
    | nil =>
      have hn' : ¬ (0 : Int) < ([] : List Q).length := by simp
      have k0 := bx_cell T.out.bx 0 rfl
      have k1 := bx_cell T.out.bx 1 rfl
      have kf := bx_frz T.out.bx
      have r0 := bx_cell T.out.res 0 rfl
      have r1 := bx_cell T.out.res 1 rfl
      have rf := bx_frz T.out.res
      have hlb := heap_lt T.out.bx
      simp only [List.getElem_toArray, List.getElem_cons_zero, List.getElem_cons_succ] at k0 k1 r0 r1
      go_wp2
      (try go_light)
      refine bodyPost_ret (v := .agg #[.slice A (ps).length c, .slice B 0 d]) (by simp [results, Try.results57, go_sem, *]) rfl ?_
      refine ⟨A, B, c, d, ps, ([] : List Q), rfl, by (first | omega | (have h9 := hp2; simp at h9 ⊢; omega) | simp), by (first | omega | (have h9 := hn2; simp at h9 ⊢; omega) | simp), ?_, ?_, ?_, ?_⟩
      · exact own_set (own_set T.out.oa (own_ne T.out.oa T.out.res (by decide)) _) (own_ne T.out.oa T.out.res (by decide)) _
      · exact own_set (own_set T.out.ob (own_ne T.out.ob T.out.res (by decide)) _) (own_ne T.out.ob T.out.res (by decide)) _
      · exact (T.out.cur.set hgw _).set hgw _
      · exact (T.out.fr.setCell (Or.inr (Nat.le_refl _)) _).setCell (Or.inr (Nat.le_refl _)) _
    | cons q r =>
      have hn' : (0 : Int) < (q :: r).length := by first | (simp; done) | (simp; omega)
      go_upto_region 8 with fail
      refine wp_region_tail 4 (fun w9 => JT w w9 g w.heap.size bb ps (q :: r) A B c d) (Fr (· = g)) (by kernel_rfl) (by kernel_rfl) (T.out.bel (below_drewN _ 1)) ?_
      clear k0 k1 kf r0 r1 rf hlb
      show Det _ _ _ _ _ _ (_ :: _ :: _ :: _ :: []) _ _
      refine Det.val ?_ rfl ?_ (Fr.refl _) ?_
      rotate_left
      · intro f w9 hJ
        have k0 := bx_cell hJ.bx 0 rfl; have k1 := bx_cell hJ.bx 1 rfl; have kf := bx_frz hJ.bx; simp only [List.getElem_toArray, List.getElem_cons_zero, List.getElem_cons_succ] at k0 k1
        go_simp
        with_reducible rfl
      (try simp only [putA, List.setIfInBounds_toArray, List.set_cons_zero, List.set_cons_succ, Option.getD_some])
      refine Det.val ?_ rfl ?_ (Fr.refl _) ?_
      rotate_left
      · intro f w9 hJ
        have k0 := bx_cell hJ.bx 0 rfl; have k1 := bx_cell hJ.bx 1 rfl; have kf := bx_frz hJ.bx; simp only [List.getElem_toArray, List.getElem_cons_zero, List.getElem_cons_succ] at k0 k1
        go_simp
        with_reducible rfl
      (try simp only [putA, List.setIfInBounds_toArray, List.set_cons_zero, List.set_cons_succ, Option.getD_some])
      refine Det.val ?_ rfl ?_ (Fr.refl _) ?_
      rotate_left
      · intro f w9 hJ
        skip
        go_simp
        with_reducible rfl
      (try simp only [putA, List.setIfInBounds_toArray, List.set_cons_zero, List.set_cons_succ, Option.getD_some])
      refine Det.flo (rV) rfl rfl (fun _ _ _ h _ => h) ?_ ?_
      · intro f w9 K hJ hR hK
        have HK := Lib.hid hK
        clear hK hR
        go_simp
        go_at_call 104
        refine (cur_any g _ hJ.cur).mono ?_
        rintro e w10 ⟨x, y, z, rfl, _, _, _, cu, fr⟩
        exact HK.out _ _ (hJ.cs fr cu) fr ⟨x, y, z, rfl⟩
      (try simp only [putA, List.setIfInBounds_toArray, List.set_cons_zero, List.set_cons_succ, Option.getD_some])
      refine Det.nil ?_
      intro f w9 hJ hR
      obtain ⟨za, zb, zc, hz⟩ := hR (46, rV) (by simp [addF, dropF])
      clear hR
      simp only [hz]
      clear hz
      obtain ⟨g1, q', rfl, hq, d0, d1, d2, d3⟩ := Rd.q (own_rdd' hJ.ob) (k := 0) (by simp)
      have hqq : q' = q := by simpa using hq.symm
      subst hqq
      clear hq
      simp only [Nat.zero_mul, Nat.zero_add] at d0 d1 d2 d3
      have of := own_frz hJ.ob
      have hl0 : 0 < (q' :: r).length := by simp
      have T4 := Lib.hid (((hJ.setn (i := 1) (ns' := ⟨q'.t, za, q'.b, q'.c⟩ :: r) (u := .int .i64 za) (by first | (simp; done) | (simp; omega)) rfl rfl).setn (i := 2) (ns' := ⟨q'.t, za, zb, q'.c⟩ :: r) (u := .int .i64 zb) (by first | (simp; done) | (simp; omega)) rfl rfl).setn (i := 3) (ns' := ⟨q'.t, za, zb, zc⟩ :: r) (u := .int .i64 zc) (by first | (simp; done) | (simp; omega)) rfl rfl)
      clear hJ T
      show wpList _ _ _ (_ :: _ :: _ :: []) _ _
      go_upto_region 9 with fail
      clear d0 d1 d2 d3 of
      generalize ((w9.setCell _ _).setCell _ _).setCell _ _ = w4 at *
      have k0 := bx_cell T4.out.bx 0 rfl
      have k1 := bx_cell T4.out.bx 1 rfl
      have kf := bx_frz T4.out.bx
      have r0 := bx_cell T4.out.res 0 rfl
      have r1 := bx_cell T4.out.res 1 rfl
      have rf := bx_frz T4.out.res
      have hlb := heap_lt T4.out.bx
      simp only [List.getElem_toArray, List.getElem_cons_zero, List.getElem_cons_succ] at k0 k1 r0 r1
      go_wp2
      (try go_light)
      refine bodyPost_ret (v := .agg #[.slice A (ps).length c, .slice (some ⟨g1, 0, none⟩) (⟨q'.t, za, zb, zc⟩ :: r).length d]) (by simp [results, Try.results57, go_sem, *]) rfl ?_
      refine ⟨A, (some ⟨g1, 0, none⟩), c, d, ps, ⟨q'.t, za, zb, zc⟩ :: r, rfl, by (first | omega | (have h9 := hp2; simp at h9 ⊢; omega) | simp), by (first | omega | (have h9 := hn2; simp at h9 ⊢; omega) | simp), ?_, ?_, ?_, ?_⟩
      · exact own_set (own_set T4.out.oa (own_ne T4.out.oa T4.out.res (by decide)) _) (own_ne T4.out.oa T4.out.res (by decide)) _
      · exact own_set (own_set T4.out.ob (own_ne T4.out.ob T4.out.res (by decide)) _) (own_ne T4.out.ob T4.out.res (by decide)) _
      · exact (T4.out.cur.set hgw _).set hgw _
      · exact (T4.out.fr.setCell (Or.inr (Nat.le_refl _)) _).setCell (Or.inr (Nat.le_refl _)) _
  by_cases e3 : k = 3
  · subst e3
    go_upto_region 10 with fail
    refine wp_region_tail 8 (fun w9 => JT w w9 g w.heap.size bb ps ns A B c d) (Fr (· = g)) (by kernel_rfl) (by kernel_rfl) (T.out.bel (below_drewN _ 1)) ?_
    clear k0 k1 kf r0 r1 rf hlb
    show Det _ _ _ _ _ _ (_ :: _ :: _ :: _ :: _ :: _ :: _ :: _ :: []) _ _
    refine Det.val ?_ rfl ?_ (Fr.refl _) ?_
    rotate_left
    · intro f w9 hJ
      have k0 := bx_cell hJ.bx 0 rfl; have k1 := bx_cell hJ.bx 1 rfl; have kf := bx_frz hJ.bx; simp only [List.getElem_toArray, List.getElem_cons_zero, List.getElem_cons_succ] at k0 k1
      go_simp
      with_reducible rfl
    (try simp only [putA, List.setIfInBounds_toArray, List.set_cons_zero, List.set_cons_succ, Option.getD_some])
    refine Det.val ?_ rfl ?_ (Fr.refl _) ?_
    rotate_left
    · intro f w9 hJ
      have k0 := bx_cell hJ.bx 0 rfl; have k1 := bx_cell hJ.bx 1 rfl; have kf := bx_frz hJ.bx; simp only [List.getElem_toArray, List.getElem_cons_zero, List.getElem_cons_succ] at k0 k1
      go_simp
      with_reducible rfl
    (try simp only [putA, List.setIfInBounds_toArray, List.set_cons_zero, List.set_cons_succ, Option.getD_some])
    refine Det.val ?_ rfl ?_ (Fr.refl _) ?_
    rotate_left
    · intro f w9 hJ
      have k0 := bx_cell hJ.bx 0 rfl; have k1 := bx_cell hJ.bx 1 rfl; have kf := bx_frz hJ.bx; simp only [List.getElem_toArray, List.getElem_cons_zero, List.getElem_cons_succ] at k0 k1
      go_simp
      with_reducible rfl
    (try simp only [putA, List.setIfInBounds_toArray, List.set_cons_zero, List.set_cons_succ, Option.getD_some])
    refine Det.val ?_ rfl ?_ (Fr.refl _) ?_
    rotate_left
    · intro f w9 hJ
      have k0 := bx_cell hJ.bx 0 rfl; have k1 := bx_cell hJ.bx 1 rfl; have kf := bx_frz hJ.bx; simp only [List.getElem_toArray, List.getElem_cons_zero, List.getElem_cons_succ] at k0 k1
      go_simp
      with_reducible rfl
    (try simp only [putA, List.setIfInBounds_toArray, List.set_cons_zero, List.set_cons_succ, Option.getD_some])
    refine Det.val ?_ rfl ?_ (Fr.refl _) ?_
    rotate_left
    · intro f w9 hJ
      have k0 := bx_cell hJ.bx 0 rfl; have k1 := bx_cell hJ.bx 1 rfl; have kf := bx_frz hJ.bx; simp only [List.getElem_toArray, List.getElem_cons_zero, List.getElem_cons_succ] at k0 k1
      go_simp
      with_reducible rfl
    (try simp only [putA, List.setIfInBounds_toArray, List.set_cons_zero, List.set_cons_succ, Option.getD_some])
    refine Det.val ?_ rfl ?_ (Fr.refl _) ?_
    rotate_left
    · intro f w9 hJ
      have k0 := bx_cell hJ.bx 0 rfl; have k1 := bx_cell hJ.bx 1 rfl; have kf := bx_frz hJ.bx; simp only [List.getElem_toArray, List.getElem_cons_zero, List.getElem_cons_succ] at k0 k1
      go_simp
      with_reducible rfl
    (try simp only [putA, List.setIfInBounds_toArray, List.set_cons_zero, List.set_cons_succ, Option.getD_some])
    refine Det.flo (rI 0 (ps.length - 1)) rfl rfl (fun _ _ _ h _ => h) ?_ ?_
    · intro f w9 K hJ hR hK
      have HK := Lib.hid hK
      clear hK hR
      go_simp
      go_at_call 56
      refine (cur_below g (ps.length : Int) _ hJ.cur (by omega) (by omega)).mono ?_
      rintro e w10 ⟨x, rfl, h0, h1, cu, fr⟩
      exact HK.out _ _ (hJ.cs fr cu) fr ⟨x, rfl, by omega, by omega⟩
    (try simp only [putA, List.setIfInBounds_toArray, List.set_cons_zero, List.set_cons_succ, Option.getD_some])
    refine Det.flo (rB1 g) rfl rfl (fun _ _ _ h hf => rB1_fr h hf) ?_ ?_
    · intro f w9 K hJ hR hK
      obtain ⟨y, hy, -, -⟩ := hR (57, rI 0 (ps.length - 1)) (by simp [addF, dropF]) (by show (57 : Nat) ∈ _; decide)
      simp only [hy] at hK
      have HK := Lib.hid hK
      clear hK
      clear hR
      have hgl9 := hJ.cur.lt
      go_simp
      exact HK.out _ _ (hJ.bel (below_alloc _ _)) ((Fr.refl _ _).alloc _) ⟨_, _, rfl, heap_at _ rfl, hgl9⟩
    (try simp only [putA, List.setIfInBounds_toArray, List.set_cons_zero, List.set_cons_succ, Option.getD_some])
    refine Det.nil ?_
    intro f w9 hJ hR
    obtain ⟨kk, y, h58, hb58, hgk⟩ := hR (58, rB1 g) (by simp [addF, dropF])
    clear hR
    simp only [h58]
    clear h58
    have hnl := heap_lt hb58
    have n0 := bx_cell hb58 0 rfl
    have k0 := bx_cell hJ.bx 0 rfl; have k1 := bx_cell hJ.bx 1 rfl; have kf := bx_frz hJ.bx; simp only [List.getElem_toArray, List.getElem_cons_zero, List.getElem_cons_succ] at k0 k1
    simp only [List.getElem_toArray, List.getElem_cons_zero, List.getElem_cons_succ] at n0
    have TH := Lib.hid hJ
    clear hJ hb58 T
    obtain ⟨i0, hi, hz0, hz1, hz2⟩ := info_parts infoI
    show wpList _ _ _ (_ :: _ :: _ :: []) _ _
    have hlo9 : w.heap.size ≤ w9.heap.size := TH.out.fr.size
    go_wp2_with (at_builtin; refine wpList_append_own _ rfl _ _ 23 rfl (w.heap.size) 3 i0 (.int .i64 0) 1 8 Try.underlying23 hi hz0 hz1 hz2 rfl (by decide) _ _ _ rfl (TH.out.oa) ⟨kk, 0, none⟩ 1 1 [.int .i64 y] rfl rfl ?cn1 ?cn2 ?cn3 ?cn4 ?cn5 ?_)
    try case cn1 =>
      intro j y hy
      match j, hy with
      | 0, hy => (simp at hy; subst hy; simp [Addr.add, n0])
    try case cn2 => simp [Value.oneCell']
    case cn3 => unfold maxLen; skip; omega
    case cn4 => skip; omega
    try case cn5 => first | omega | (simp <;> omega)
    intro v6 w6 own6 hg6 _
    obtain ⟨A6, c6, rfl, rd6⟩ := own_rd own6
    clear rd6
    obtain ⟨A', c', T4'⟩ := TH.out.put own6 hg6
    have e6 := bx_grown TH.out.bx hg6 (own_ne TH.out.oa TH.out.bx (by decide))
    have g0 := bx_cell e6 0 rfl
    have gf := bx_frz e6
    simp only [List.getElem_toArray, List.getElem_cons_zero, List.getElem_cons_succ] at g0
    have T4h := Lib.hid T4'
    clear T4' own6 hi hz0 hz1 hz2 k0 k1 kf n0 hg6 e6 TH
    go_upto_region 11 with fail
    obtain ⟨ps', hps'⟩ : ∃ p, p = ps ++ [y] := ⟨_, rfl⟩
    have hp9 : ps'.length ≤ 19 := by rw [hps']; simp; omega
    rw [← hps'] at T4h
    have T4 := T4h
    clear T4h hps' g0 gf
    generalize w6.setCell _ _ = w4 at *
    have k0 := bx_cell T4.out.bx 0 rfl
    have k1 := bx_cell T4.out.bx 1 rfl
    have kf := bx_frz T4.out.bx
    have r0 := bx_cell T4.out.res 0 rfl
    have r1 := bx_cell T4.out.res 1 rfl
    have rf := bx_frz T4.out.res
    have hlb := heap_lt T4.out.bx
    simp only [List.getElem_toArray, List.getElem_cons_zero, List.getElem_cons_succ] at k0 k1 r0 r1
    go_wp2
    (try go_light)
    refine bodyPost_ret (v := .agg #[.slice A' (ps').length c', .slice B (ns).length d]) (by simp [results, Try.results57, go_sem, *]) rfl ?_
    refine ⟨A', B, c', d, ps', ns, rfl, by (first | omega | (have h9 := hp2; simp at h9 ⊢; omega) | simp), by (first | omega | (have h9 := hn2; simp at h9 ⊢; omega) | simp), ?_, ?_, ?_, ?_⟩
    · exact own_set (own_set T4.out.oa (own_ne T4.out.oa T4.out.res (by decide)) _) (own_ne T4.out.oa T4.out.res (by decide)) _
    · exact own_set (own_set T4.out.ob (own_ne T4.out.ob T4.out.res (by decide)) _) (own_ne T4.out.ob T4.out.res (by decide)) _
    · exact (T4.out.cur.set hgw _).set hgw _
    · exact (T4.out.fr.setCell (Or.inr (Nat.le_refl _)) _).setCell (Or.inr (Nat.le_refl _)) _
  by_cases e4 : k = 4
  · subst e4
    go_upto_region 13 with fail
    have T4 := Lib.hid T.out.none0
    clear k0 k1 kf r0 r1 rf hlb T
    generalize w3.setCell _ _ = w4 at *
    have k0 := bx_cell T4.out.bx 0 rfl
    have k1 := bx_cell T4.out.bx 1 rfl
    have kf := bx_frz T4.out.bx
    have r0 := bx_cell T4.out.res 0 rfl
    have r1 := bx_cell T4.out.res 1 rfl
    have rf := bx_frz T4.out.res
    have hlb := heap_lt T4.out.bx
    simp only [List.getElem_toArray, List.getElem_cons_zero, List.getElem_cons_succ] at k0 k1 r0 r1
    go_wp2
    (try go_light)
    refine bodyPost_ret (v := .agg #[.slice none 0 0, .slice B (ns).length d]) (by simp [results, Try.results57, go_sem, *]) rfl ?_
    refine ⟨none, B, 0, d, ([] : List Int), ns, rfl, by (first | omega | (have h9 := hp2; simp at h9 ⊢; omega) | simp), by (first | omega | (have h9 := hn2; simp at h9 ⊢; omega) | simp), ?_, ?_, ?_, ?_⟩
    · exact own_set (own_set T4.out.oa (own_ne T4.out.oa T4.out.res (by decide)) _) (own_ne T4.out.oa T4.out.res (by decide)) _
    · exact own_set (own_set T4.out.ob (own_ne T4.out.ob T4.out.res (by decide)) _) (own_ne T4.out.ob T4.out.res (by decide)) _
    · exact (T4.out.cur.set hgw _).set hgw _
    · exact (T4.out.fr.setCell (Or.inr (Nat.le_refl _)) _).setCell (Or.inr (Nat.le_refl _)) _
  have k0 := bx_cell T.out.bx 0 rfl
  have k1 := bx_cell T.out.bx 1 rfl
  have kf := bx_frz T.out.bx
  have r0 := bx_cell T.out.res 0 rfl
  have r1 := bx_cell T.out.res 1 rfl
  have rf := bx_frz T.out.res
  have hlb := heap_lt T.out.bx
  simp only [List.getElem_toArray, List.getElem_cons_zero, List.getElem_cons_succ] at k0 k1 r0 r1
  go_wp2
  (try go_light)
  refine bodyPost_ret (v := .agg #[.slice A (ps).length c, .slice B (ns).length d]) (by simp [results, Try.results57, go_sem, *]) rfl ?_
  refine ⟨A, B, c, d, ps, ns, rfl, by (first | omega | (have h9 := hp2; simp at h9 ⊢; omega) | simp), by (first | omega | (have h9 := hn2; simp at h9 ⊢; omega) | simp), ?_, ?_, ?_, ?_⟩
  · exact own_set (own_set T.out.oa (own_ne T.out.oa T.out.res (by decide)) _) (own_ne T.out.oa T.out.res (by decide)) _
  · exact own_set (own_set T.out.ob (own_ne T.out.ob T.out.res (by decide)) _) (own_ne T.out.ob T.out.res (by decide)) _
  · exact (T.out.cur.set hgw _).set hgw _
  · exact (T.out.fr.setCell (Or.inr (Nat.le_refl _)) _).setCell (Or.inr (Nat.le_refl _)) _
end Go.Proofs.Ytpfcegjomdppmaa
