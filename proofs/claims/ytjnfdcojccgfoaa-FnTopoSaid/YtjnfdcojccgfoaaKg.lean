/-
  FnTopo: a topology is recovered from its text.
-/
import Derived.Test.YtjnfdcojccgfoaaDz
import Derived.Test.YtjnfdcojccgfoaaKf
import Derived.Test.YtjnfdcojccgfoaaA15
namespace Go.Proofs.Ytjnfdcojccgfoaa
set_option linter.unusedSimpArgs false
set_option linter.unusedVariables false
set_option linter.unnecessarySimpa false
open Go.RowKit
theorem topoTxt_size {ps : List Int} {ns : List Q} : (topoTextV ps ns).size ≤ 1048576 := Nat.le_trans (topoTextV_size ps ns) (by decide)

set_option maxHeartbeats 2000000 in
theorem drawTopoText_any (A0 : Option Addr) (n c0 : Nat) (w : World) (hn : n ≤ 1048576) (h : ByIn w A0 n) :
    Calls Try.prog 86 #[.slice A0 n c0] w fun e w' => ∃ (A B : Option Addr) (c d : Nat) (ps : List Int) (ns : List Q), e = .returned (.agg #[.slice A ps.length c, .slice B ns.length d]) ∧ ps.length ≤ 19 ∧ ns.length ≤ 10 ∧ w'.ownsRow w.heap.size 3 1 (.slice A ps.length c) ps.length (ints ps) ∧ w'.ownsRow w.heap.size 104 4 (.slice B ns.length d) ns.length (flat ns) ∧ Below w.heap.size w w' := by
  have HB := Lib.hid h
  clear h
  go_enter Try.func86, Try.ntmps86
  go_wp2_with fail
  refine (cur_new A0 n c0 _ hn (HB.out.below (by repeat (first | exact Below.refl _ _ | assumption | (refine bstep ?_ (below_drewN _ _)) | exact bstep (by assumption) (by assumption) | (refine bstep ?_ (below_alloc _ _)) | (refine bstep ?_ (by assumption)) | (refine Below.setCell ?_ (by simp <;> omega) _) | refine Below.drew ?_)))).mono ?_
  rintro e w1 ⟨g, rfl, hg, cu1, hb1⟩
  have hs1 := hb1.size
  (try simp at hs1)
  have hy10 : w.heap.size < w1.heap.size := by omega
  have hk10 := fun o => hb1.cell (p := ⟨w.heap.size, o, none⟩) (by first | omega | (simp <;> omega))
  have hg10 := fun o => hb1.frozen (p := ⟨w.heap.size, o, none⟩) (by first | omega | (simp <;> omega))
  have hgl := cu1.lt
  simp at hg
  have C1 := Lib.hid cu1
  clear cu1
  have B1 : Below w.heap.size w w1 := bstep (below_alloc _ _) hb1
  go_wp2_with fail
  refine (cur_topoAny g _ (by repeat (first | exact C1.out | refine Cur.alloc ?_ _ | refine Cur.drewN ?_ _ | refine Cur.drew ?_ | refine Cur.set ?_ (by simp <;> omega) _))).mono ?_
  rintro e w2 ⟨A, B, c, d, ps, ns, rfl, hp, hn2, oa, ob, cu2, fr2⟩
  have hs2 := fr2.size
  (try simp at hs2)
  have hy20 : w.heap.size < w2.heap.size := by omega
  have hk20 := fun o => fr2.cell (b := w.heap.size) (by first | omega | (simp <;> omega)) (by omega) o
  have hg20 := fun o => fr2.frozen (b := w.heap.size) (by first | omega | (simp <;> omega)) (by omega) o
  have C2 := Lib.hid cu2
  have hgl2 := cu2.lt
  clear cu2
  have B2 : Below w.heap.size w w2 := Below.trans (by repeat (first | with_reducible exact B1 | with_reducible exact Below.refl _ _ | (with_reducible refine Below.setCell ?_ ?_ _; rotate_left; focus (simp <;> omega)) | (with_reducible refine Below.alloc ?_ ?_ _; rotate_left; focus (first | omega | (simp <;> omega))) | with_reducible refine below_drewN9 ?_ _ | with_reducible refine Below.drew ?_)) (fr2.bel (B := w.heap.size) (fun k e => by omega) (by first | omega | (simp <;> omega)))
  have OA := Lib.hid (own_mono oa (show w.heap.size ≤ w1.heap.size by omega))
  have OB := Lib.hid (own_mono ob (show w.heap.size ≤ w1.heap.size by omega))
  have RS := Lib.hid (own_ge oa)
  have RT := Lib.hid (own_ge ob)
  clear oa ob
  clear fr2 hb1
  have NA : Hid (∀ k, (Value.slice A ps.length c).ownBlock = some k → k ≠ w.heap.size) := Lib.hid (fun k hk => by have := RS.out k hk; omega)
  have NB : Hid (∀ k, (Value.slice B ns.length d).ownBlock = some k → k ≠ w.heap.size) := Lib.hid (fun k hk => by have := RT.out k hk; omega)
  go_wp2
  (try go_light)
  refine bodyPost_ret (v := .agg #[.slice A ps.length c, .slice B ns.length d]) (by simp [results, Try.results86, go_sem, *]) rfl ?_
  refine ⟨A, B, c, d, ps, ns, rfl, hp, hn2, ?_, ?_, ?_⟩
  · exact own_bel (own_set (a := ⟨w.heap.size, 1, none⟩) (own_set (a := ⟨w.heap.size, 0, none⟩) OA.out NA.out _) NA.out _) (below_alloc _ _)
  · exact own_bel (own_set (a := ⟨w.heap.size, 1, none⟩) (own_set (a := ⟨w.heap.size, 0, none⟩) OB.out NB.out _) NB.out _) (below_alloc _ _)
  · exact (by repeat (first | with_reducible exact B2 | with_reducible exact Below.refl _ _ | (with_reducible refine Below.setCell ?_ ?_ _; rotate_left; focus (simp <;> omega)) | (with_reducible refine Below.alloc ?_ ?_ _; rotate_left; focus (first | omega | (simp <;> omega))) | with_reducible refine below_drewN9 ?_ _ | with_reducible refine Below.drew ?_))

set_option maxHeartbeats 4000000 in
theorem law_topo_go (A0 : Option Addr) (n c0 : Nat) (w : World) (hn : n ≤ 1048576) (h : ByIn w A0 n) :
    Calls Try.prog 20 #[.slice A0 n c0] w fun e w' => e = .returned (.bool true) ∧ Below w.heap.size w w' := by
  have HB := Lib.hid h
  have HN := Lib.hid hn
  have hn' : ¬ (1048576 : Int) < n := by omega
  clear h hn
  go_enter Try.func20, Try.ntmps20
  go_wp2_with fail
  refine (drawTopoText_any A0 n c0 _ HN.out HB.out).mono ?_
  rintro e w1 ⟨A, B, c, d, ps, ns, rfl, hp, hn2, oa, ob, hb1⟩
  have hs1 := hb1.size
  (try simp at hs1)
  have OA := Lib.hid oa
  have OB := Lib.hid ob
  clear oa ob
  obtain ⟨hc1, hc2⟩ := own_cap OA.out
  unfold maxLen at hc2
  skip
  go_wp2_with fail
  refine (topoText_any A B ps.length c ns.length d ps ns _ (by omega) (by omega) (own_rdd' (own_bel OA.out (below_alloc _ _))) (own_rdd' (own_bel OB.out (below_alloc _ _))) (own_blk (own_bel OA.out (below_alloc _ _))) (own_blk (own_bel OB.out (below_alloc _ _))) hc1 (by omega)).mono ?_
  rintro e w2 ⟨rfl, hb2⟩
  have hs2 := hb2.size
  (try simp at hs2)
  have hy20 : w1.heap.size < w2.heap.size := by omega
  have hk20 := fun o => hb2.cell (p := ⟨w1.heap.size, o, none⟩) (by first | omega | (simp <;> omega))
  have hg20 := fun o => hb2.frozen (p := ⟨w1.heap.size, o, none⟩) (by first | omega | (simp <;> omega))
  have OA2 := Lib.hid (own_bel (own_bel OA.out (below_alloc _ _)) hb2)
  have OB2 := Lib.hid (own_bel (own_bel OB.out (below_alloc _ _)) hb2)
  clear OA OB
  have hsz := topoTxt_size (ps := ps) (ns := ns)
  have htt : (topoOkB ps ns = false ∧ topoTextV ps ns = ⟨#[]⟩) ∨ (topoOkB ps ns = true ∧ ttB (topoTextV ps ns) = true ∧ ttP (topoTextV ps ns) = ps ∧ ttN (topoTextV ps ns) = ns) := by
    cases hk : topoOkB ps ns
    · exact Or.inl ⟨rfl, by unfold topoTextV; rw [hk]; rfl⟩
    · have e : topoTextV ps ns = topoTxt ps ns := by unfold topoTextV; rw [hk]; rfl
      rw [e]
      obtain ⟨a, b, c⟩ := tt_text hk
      exact Or.inr ⟨rfl, a, b, c⟩
  obtain ⟨S, hS⟩ : ∃ S, S = topoTextV ps ns := ⟨_, rfl⟩
  rw [← hS] at htt hsz ⊢
  have HS := Lib.hid hS
  clear hS
  go_wp2_with fail
  refine (textTopo_any S _ (by omega)).mono ?_
  rintro e w3 ⟨u, v, rfl, ou, ov, hb3⟩
  have hs3 := hb3.size
  (try simp at hs3)
  have hy30 : w1.heap.size < w3.heap.size := by omega
  have hk30 := fun o => hb3.cell (p := ⟨w1.heap.size, o, none⟩) (by first | omega | (simp <;> omega))
  have hg30 := fun o => hb3.frozen (p := ⟨w1.heap.size, o, none⟩) (by first | omega | (simp <;> omega))
  obtain ⟨U, cu, rfl, ru⟩ := own_rd ou
  obtain ⟨V, cv, rfl, rv⟩ := own_rd ov
  have OU := Lib.hid ou
  have OV := Lib.hid ov
  obtain ⟨hc3, hc4⟩ := own_cap ou
  unfold maxLen at hc4
  clear ou ov ru rv
  have OA3 := Lib.hid (own_bel OA2.out hb3)
  have OB3 := Lib.hid (own_bel OB2.out hb3)
  clear OA2 OB2
  rcases htt with ⟨hk, hE⟩ | ⟨hk, t1, t2, t3⟩
  · have HK := Lib.hid hk
    clear hk
    have hbt : ttB S = true := by rw [hE]; exact tt_empty.1
    rw [hbt]
    have hs1 : S.toList.isEmpty = true := by rw [hE, Go.ByteArray.toList_eq]; rfl
    clear hE hbt
    go_wp2_with fail
    refine (stopoOk_any A B ps.length c ns.length d ps ns _ (by omega) (by omega) (own_rdd' (own_bel OA3.out (below_alloc _ _))) (own_rdd' (own_bel OB3.out (below_alloc _ _))) (own_blk (own_bel OA3.out (below_alloc _ _))) (own_blk (own_bel OB3.out (below_alloc _ _)))).mono ?_
    rintro e w4 ⟨rfl, hb4⟩
    have hs4 := hb4.size
    (try simp at hs4)
    have hy40 : w1.heap.size < w4.heap.size := by omega
    have hk40 := fun o => hb4.cell (p := ⟨w1.heap.size, o, none⟩) (by first | omega | (simp <;> omega))
    have hg40 := fun o => hb4.frozen (p := ⟨w1.heap.size, o, none⟩) (by first | omega | (simp <;> omega))
    have hy41 : w3.heap.size < w4.heap.size := by omega
    have hk41 := fun o => hb4.cell (p := ⟨w3.heap.size, o, none⟩) (by first | omega | (simp <;> omega))
    have hg41 := fun o => hb4.frozen (p := ⟨w3.heap.size, o, none⟩) (by first | omega | (simp <;> omega))
    rw [HK.out]
    have OA4 := Lib.hid (own_bel (own_bel OA3.out (below_alloc _ _)) hb4)
    have OB4 := Lib.hid (own_bel (own_bel OB3.out (below_alloc _ _)) hb4)
    go_wp2_with fail
    refine (topoOk_any A B ps.length c ns.length d ps ns _ (by omega) (by omega) (own_rdd' OA4.out) (own_rdd' OB4.out) (own_blk OA4.out) (own_blk OB4.out)).mono ?_
    rintro e w5 ⟨rfl, hb5⟩
    have hs5 := hb5.size
    (try simp at hs5)
    have hy50 : w1.heap.size < w5.heap.size := by omega
    have hk50 := fun o => hb5.cell (p := ⟨w1.heap.size, o, none⟩) (by first | omega | (simp <;> omega))
    have hg50 := fun o => hb5.frozen (p := ⟨w1.heap.size, o, none⟩) (by first | omega | (simp <;> omega))
    have hy51 : w3.heap.size < w5.heap.size := by omega
    have hk51 := fun o => hb5.cell (p := ⟨w3.heap.size, o, none⟩) (by first | omega | (simp <;> omega))
    have hg51 := fun o => hb5.frozen (p := ⟨w3.heap.size, o, none⟩) (by first | omega | (simp <;> omega))
    rw [HK.out]
    go_wp2
    go_ret
    exact ⟨rfl, (by repeat (first | exact Below.refl _ _ | assumption | (refine bstep ?_ (below_drewN _ _)) | exact bstep (by assumption) (by assumption) | (refine bstep ?_ (below_alloc _ _)) | (refine bstep ?_ (by assumption)) | (refine Below.setCell ?_ (by simp <;> omega) _) | refine Below.drew ?_))⟩
  · have HK := Lib.hid hk
    clear hk
    rw [t1, t2, t3]
    rw [t2] at OU hc3
    rw [t3] at OV
    clear t1 t2 t3
    go_wp2_with fail
    refine (stopoOk_any A B ps.length c ns.length d ps ns _ (by omega) (by omega) (own_rdd' (own_bel OA3.out (below_alloc _ _))) (own_rdd' (own_bel OB3.out (below_alloc _ _))) (own_blk (own_bel OA3.out (below_alloc _ _))) (own_blk (own_bel OB3.out (below_alloc _ _)))).mono ?_
    rintro e w4 ⟨rfl, hb4⟩
    have hs4 := hb4.size
    (try simp at hs4)
    have hy40 : w1.heap.size < w4.heap.size := by omega
    have hk40 := fun o => hb4.cell (p := ⟨w1.heap.size, o, none⟩) (by first | omega | (simp <;> omega))
    have hg40 := fun o => hb4.frozen (p := ⟨w1.heap.size, o, none⟩) (by first | omega | (simp <;> omega))
    have hy41 : w3.heap.size < w4.heap.size := by omega
    have hk41 := fun o => hb4.cell (p := ⟨w3.heap.size, o, none⟩) (by first | omega | (simp <;> omega))
    have hg41 := fun o => hb4.frozen (p := ⟨w3.heap.size, o, none⟩) (by first | omega | (simp <;> omega))
    rw [HK.out]
    have OU4 := Lib.hid (own_bel (own_bel OU.out (below_alloc _ _)) hb4)
    have OV4 := Lib.hid (own_bel (own_bel OV.out (below_alloc _ _)) hb4)
    go_wp2_with fail
    refine (topoOk_any U V ps.length cu ns.length cv ps ns _ (by omega) (by omega) (own_rdd' OU4.out) (own_rdd' OV4.out) (own_blk OU4.out) (own_blk OV4.out)).mono ?_
    rintro e w5 ⟨rfl, hb5⟩
    have hs5 := hb5.size
    (try simp at hs5)
    have hy50 : w1.heap.size < w5.heap.size := by omega
    have hk50 := fun o => hb5.cell (p := ⟨w1.heap.size, o, none⟩) (by first | omega | (simp <;> omega))
    have hg50 := fun o => hb5.frozen (p := ⟨w1.heap.size, o, none⟩) (by first | omega | (simp <;> omega))
    have hy51 : w3.heap.size < w5.heap.size := by omega
    have hk51 := fun o => hb5.cell (p := ⟨w3.heap.size, o, none⟩) (by first | omega | (simp <;> omega))
    have hg51 := fun o => hb5.frozen (p := ⟨w3.heap.size, o, none⟩) (by first | omega | (simp <;> omega))
    rw [HK.out]
    have OU5 := Lib.hid (own_bel OU4.out hb5)
    have OV5 := Lib.hid (own_bel OV4.out hb5)
    go_wp2_with fail
    refine (topoText_any U V ps.length cu ns.length cv ps ns _ (by omega) (by omega) (own_rdd' OU5.out) (own_rdd' OV5.out) (own_blk OU5.out) (own_blk OV5.out) (by omega) (by omega)).mono ?_
    rintro e w6 ⟨rfl, hb6⟩
    have hs6 := hb6.size
    (try simp at hs6)
    have hy60 : w1.heap.size < w6.heap.size := by omega
    have hk60 := fun o => hb6.cell (p := ⟨w1.heap.size, o, none⟩) (by first | omega | (simp <;> omega))
    have hg60 := fun o => hb6.frozen (p := ⟨w1.heap.size, o, none⟩) (by first | omega | (simp <;> omega))
    have hy61 : w3.heap.size < w6.heap.size := by omega
    have hk61 := fun o => hb6.cell (p := ⟨w3.heap.size, o, none⟩) (by first | omega | (simp <;> omega))
    have hg61 := fun o => hb6.frozen (p := ⟨w3.heap.size, o, none⟩) (by first | omega | (simp <;> omega))
    rw [← HS.out]
    have hss : (S.toList == S.toList) = true := by simp
    go_wp2
    go_ret
    exact ⟨rfl, (by repeat (first | exact Below.refl _ _ | assumption | (refine bstep ?_ (below_drewN _ _)) | exact bstep (by assumption) (by assumption) | (refine bstep ?_ (below_alloc _ _)) | (refine bstep ?_ (by assumption)) | (refine Below.setCell ?_ (by simp <;> omega) _) | refine Below.drew ?_))⟩
theorem law_topo (A : Option Addr) (n c : Nat) (w : World) (hn : n ≤ maxLen) (h : ByIn w A n) :
    Calls Try.prog 20 #[.slice A n c] w fun e w' => e = .returned (.bool true) ∧ Below w.heap.size w w' := by
  by_cases hs : n ≤ 1048576
  · exact law_topo_go A n c w hs h
  · have hs' : (1048576 : Int) < n := by omega
    unfold maxLen at hn
    go_enter Try.func20, Try.ntmps20
    go_wp2
    go_ret
    exact ⟨rfl, Below.refl _ _⟩
end Go.Proofs.Ytjnfdcojccgfoaa
