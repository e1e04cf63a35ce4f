import Derived.Test.YtnphjhbfpoekpaaGreatDpPh
namespace Go.Proofs.YtnphjhbfpoekpaaGreat
set_option linter.unusedSimpArgs false
set_option linter.unusedVariables false
set_option linter.unnecessarySimpa false
open Go.RowKit
def Q.put (q : Q) : Nat → Int → Q
 | 0, x => ⟨x, q.a, q.b, q.c⟩
 | 1, x => ⟨q.t, x, q.b, q.c⟩
 | 2, x => ⟨q.t, q.a, x, q.c⟩
 | _, x => ⟨q.t, q.a, q.b, x⟩
theorem flat_cons (p : Q) (r : List Q) : flat (p :: r) = .int .i64 p.t :: .int .i64 p.a :: .int .i64 p.b :: .int .i64 p.c :: flat r := rfl
theorem flat_set {j : Nat} (hj : j < 4) (x : Int) : ∀ {ps : List Q} {i : Nat} {q : Q}, ps[i]? = some q → (flat ps).set (i * 4 + j) (.int .i64 x) = flat (ps.set i (q.put j x))
 | [], _, _, h => by simp at h
 | p :: r, 0, q, h => by
  have : p = q := by simpa using h
  subst this
  rw [flat_cons]
  match j, hj with
  | 0, _ => rfl
  | 1, _ => rfl
  | 2, _ => rfl
  | 3, _ => rfl
 | p :: r, i + 1, q, h => by
  have ih := flat_set hj x (ps := r) (i := i) (q := q) (by simpa using h)
  have e : (i + 1) * 4 + j = (i * 4 + j) + 1 + 1 + 1 + 1 := by omega
  rw [flat_cons, e, zge, zge, zge, zge, ih]
  rfl
theorem JP.setq {w wr : World} {g b0 b g1 : Nat} {c : Nat} {ps : List Q} (h : JP w wr g b0 b (some ⟨g1, 0, none⟩) c ps) {i j : Nat} {q : Q} (hq : ps[i]? = some q) (hj : j < 4) (x : Int) : JP w (wr.setCell ⟨g1, i * 4 + j, none⟩ (.int .i64 x)) g b0 b (some ⟨g1, 0, none⟩) c (ps.set i (q.put j x)) := by
 have hh := h.hb
 have hg1 := zAu h.own g1 rfl
 have hi := (List.getElem?_eq_some_iff.1 hq).1
 have hl : (ps.set i (q.put j x)).length = ps.length := by simp
 refine ⟨?_, ?_, bx_set h.res (fun e => zAk h.own h.res (by decide) g1 rfl e.symm) _, h.cur.set (by show g < g1; omega) _, h.fr.setCell (Or.inr hg1) _, hh⟩
 ·rw [hl]; exact bx_set h.bx (fun e => zAk h.own h.bx (by decide) g1 rfl e.symm) _
 ·rw [hl, ← flat_set hj x hq]; exact own_put h.own (by omega)
theorem JP.put {w wr w1 : World} {g b0 b : Nat} {A : Option Addr} {c : Nat} {ps : List Q} (h : JP w wr g b0 b A c ps) {q : Q} {v : Value}
  (hv : w1.ownsRow w.heap.size 177 4 v (ps.length + 1) (flat ps ++ [.int .i64 q.t, .int .i64 q.a, .int .i64 q.b, .int .i64 q.c])) (hg : wr.grownBy w1 (Value.slice A ps.length c).ownBlock) :
  ∃ A' c', JP w (w1.setCell ⟨b, 0, none⟩ v) g b0 b A' c' (ps ++ [q]) := by
 obtain ⟨A', c', rfl, _⟩ := zAq hv
 have hh := h.hb
 have hl : (ps ++ [q]).length = ps.length + 1 := by simp
 have hrow : ∀ k, (Value.slice A ps.length c).ownBlock = some k → w.heap.size ≤ k := fun k hk => zAu h.own k hk
 have e1 := zAp h.bx hg (fun k hk => zAk h.own h.bx (by decide) k hk)
 refine ⟨A', c', ?_, ?_, bx_set (zAp h.res hg (fun k hk => zAk h.own h.res (by decide) k hk)) (by show b0 ≠ b; omega) _, (h.cur.grown hg (fun k hk => by have := hrow k hk; omega)).set (by show g < b; omega) _, (h.fr.grown hg hrow).setCell (Or.inr (by show w.heap.size ≤ b; omega)) _, hh⟩
 ·rw [hl]
  have := heap_set (i := 0) (v := .slice A' (ps.length + 1) c') e1
  simpa using this
 ·rw [hl, flat_snoc]; exact zAo hv (zAk hv e1 (by decide)) _
theorem JP.cells {w wr : World} {g b0 b g1 : Nat} {c : Nat} {ps : List Q} (h : JP w wr g b0 b (some ⟨g1, 0, none⟩) c ps) {i : Nat} {q : Q} (hq : ps[i]? = some q) : wr.cell? ⟨g1, i * 4, none⟩ = some (.int .i64 q.t) ∧ wr.cell? ⟨g1, i * 4 + 1, none⟩ = some (.int .i64 q.a) ∧ wr.cell? ⟨g1, i * 4 + 2, none⟩ = some (.int .i64 q.b) ∧ wr.cell? ⟨g1, i * 4 + 3, none⟩ = some (.int .i64 q.c) := by
 obtain ⟨g', q', e, hq', d0, d1, d2, d3⟩ := Rd.q (zAn h.own) (List.getElem?_eq_some_iff.1 hq).1
 injection e with e
 injection e with e
 subst e
 have : q' = q := by rw [hq] at hq'; exact (Option.some.inj hq').symm
 subst this
 exact ⟨d0, d1, d2, d3⟩
def rBq (q : Q) (g : Nat) : Value → World → Prop := fun u w => ∃ k : Nat, u = .slice (some ⟨k, 0, none⟩) 1 1 ∧ w.heap[k]? = some (.cells #[.int .i64 q.t, .int .i64 q.a, .int .i64 q.b, .int .i64 q.c] 177 (0, 0)) ∧ g < k
theorem rBq_fr {q : Q} {g : Nat} {u : Value} {w w' : World} (h : rBq q g u w) (hf : Fr (· = g) w w') : rBq q g u w' := by
 obtain ⟨k, h1, h2, h3⟩ := h
 exact ⟨k, h1, bx_fr h2 hf (by show ¬ _ = _; omega), h3⟩
theorem JP.none0 {w wr : World} {g b0 b : Nat} {A : Option Addr} {c : Nat} {ps : List Q} (h : JP w wr g b0 b A c ps) : JP w (wr.setCell ⟨b, 0, none⟩ (.slice none 0 0)) g b0 b none 0 [] := by
 have hh := h.hb
 exact ⟨by simpa using heap_set (i := 0) (v := .slice none 0 0) h.bx, own_nil _ _ _ _, bx_set h.res (by show b0 ≠ b; omega) _, h.cur.set (by show g < b; omega) _, h.fr.setCell (Or.inr (by show w.heap.size ≤ b; omega)) _, hh⟩
set_option maxHeartbeats 8000000 in
set_option maxRecDepth 20000 in
theorem cur_profAny (g : Nat) (w : World) (h : Cur w g) :
  Calls Tryz.prog 190 #[.pointer (some ⟨g, 0, none⟩)] w fun e w' => ∃ (A : Option Addr) (c : Nat) (ps : List Q), e = .returned (.agg #[.slice A ps.length c]) ∧ ps.length ≤ 12 ∧ w'.ownsRow w.heap.size 177 4 (.slice A ps.length c) ps.length (flat ps) ∧ Cur w' g ∧ Fr (· = g) w w' := by
 have C := Lib.hid h
 have hgw := h.lt
 clear h
 go_enter Tryz.func190, Tryz.ntmps190
 go_wp2_with fail
 refine (cur_prof g _ (by repeat (first | exact C.out | refine Cur.alloc ?_ _ | refine Cur.drewN ?_ _ | refine Cur.drew ?_ | refine Cur.set ?_ (by simp <;> omega) _))).mono ?_
 rintro e w1 ⟨A, c, ps, rfl, hpok, hp2, oa, cu1, fr1⟩
 have hs1 := fr1.size
 (try simp at hs1)
 have hy10 : w.heap.size < w1.heap.size := by omega
 have hk10 := fun o => fr1.cell (b := w.heap.size) zOm (by omega) o
 have hg10 := fun o => fr1.frozen (b := w.heap.size) zOm (by omega) o
 have C1 := Lib.hid cu1
 have hgl1 := cu1.lt
 clear cu1
 have hp1 : 1 ≤ ps.length := (profOk_parts hpok).1
 clear hpok
 have T0 : Hid (JP w (w1.alloc (.cells #[.slice A ps.length c] 31)) g w.heap.size w1.heap.size A c ps) := Lib.hid (by
  have hal := zAa w1 (.cells #[.slice A ps.length c] 31)
  refine ⟨zAj _ rfl, zAm (zAe oa hal) (by simp), zAs (bx_fr (zAj (w := w) (.cells #[.slice none 0 0] 31) rfl) fr1 (by show ¬ _ = _; omega)) _, C1.out.alloc _, ?_, by omega⟩
  exact (((Fr.refl _ w).alloc _).trans fr1).alloc _)
 clear hk10 hg10 fr1 oa
 go_upto_region 2 with fail
 obtain ⟨bb, hbb⟩ : ∃ k, k = w1.heap.size := ⟨_, rfl⟩
 rw [← hbb] at T0 ⊢
 generalize w1.alloc (.cells #[.slice A ps.length c] 31) = w2 at *
 clear hbb hs1 hy10 hgl1 C1
 go_wp2_with fail
 refine (zAt g 12 _ T0.out.cur (by omega) (by omega)).mono ?_
 rintro e w3 ⟨k, rfl, ka, kb, cu3, fr3⟩
 have T := Lib.hid (T0.out.cs fr3 cu3)
 clear fr3 cu3 T0
 have k0 := zAb T.out.bx 0 rfl
 have kf := zAh T.out.bx
 have r0 := zAb T.out.res 0 rfl
 have rf := zAh T.out.res
 have hlb := zAg T.out.bx
 simp only [zgc, zga, zgb] at k0 r0
 by_cases e0 : k = 0
 ·subst e0
  go_upto_region 5 with fail
  refine wp_region_tail 7 (fun w9 => JP w w9 g w.heap.size bb A c ps) (Fr (· = g)) (by kernel_rfl) (by kernel_rfl) (T.out.bel (zAd _ 1)) ?_
  clear k0 kf r0 rf hlb
  show Det _ _ _ _ _ _ (_ :: _ :: _ :: _ :: _ :: _ :: _ :: []) _ _
  refine Det.val ?_ rfl ?_ (Fr.refl _) ?_
  rotate_left
  ·intro f w9 hJ
   have k0 := zAb hJ.bx 0 rfl; have kf := zAh hJ.bx; simp only [zgc, zga, zgb] at k0
   go_simp
   with_reducible rfl
  (try simp only [putA, zgd, zgf, zge, zgg])
  refine Det.val ?_ rfl ?_ (Fr.refl _) ?_
  rotate_left
  ·intro f w9 hJ
   have k0 := zAb hJ.bx 0 rfl; have kf := zAh hJ.bx; simp only [zgc, zga, zgb] at k0
   go_simp
   with_reducible rfl
  (try simp only [putA, zgd, zgf, zge, zgg])
  refine Det.val ?_ rfl ?_ (Fr.refl _) ?_
  rotate_left
  ·intro f w9 hJ
   skip
   go_simp
   with_reducible rfl
  (try simp only [putA, zgd, zgf, zge, zgg])
  refine Det.val ?_ rfl ?_ (Fr.refl _) ?_
  rotate_left
  ·intro f w9 hJ
   skip
   go_simp
   with_reducible rfl
  (try simp only [putA, zgd, zgf, zge, zgg])
  refine Det.flo (rI 0 (ps.length - 1)) rfl rfl (fun _ _ _ h _ => h) ?_ ?_
  ·intro f w9 K hJ hR hK
   have HK := Lib.hid hK
   clear hK hR
   go_simp
   go_at_call 132
   refine (zAt g (ps.length : Int) _ hJ.cur (by omega) (by omega)).mono ?_
   rintro e w10 ⟨x, rfl, h0, h1, cu, fr⟩
   exact HK.out _ _ (hJ.cs fr cu) fr ⟨x, rfl, by omega, by omega⟩
  (try simp only [putA, zgd, zgf, zge, zgg])
  refine Det.val ?_ rfl ?_ (Fr.refl _) ?_
  rotate_left
  ·intro f w9 hJ
   skip
   go_simp
   with_reducible rfl
  (try simp only [putA, zgd, zgf, zge, zgg])
  refine Det.flo (rX) rfl rfl (fun _ _ _ h _ => h) ?_ ?_
  ·intro f w9 K hJ hR hK
   have HK := Lib.hid hK
   clear hK hR
   go_simp
   go_at_call 134
   refine (cur_raw g _ hJ.cur).mono ?_
   rintro e w10 ⟨x, rfl, _, cu, fr⟩
   exact HK.out _ _ (hJ.cs fr cu) fr ⟨x, rfl⟩
  (try simp only [putA, zgd, zgf, zge, zgg])
  refine Det.nil ?_
  intro f w9 hJ hR
  obtain ⟨y, hy, y0, y1⟩ := hR (19, rI 0 (ps.length - 1)) (by simp [addF, dropF])
  obtain ⟨z, hz⟩ := hR (21, rX) (by simp [addF, dropF])
  clear hR
  simp only [hy, hz]
  clear hy hz
  obtain ⟨i, rfl⟩ : ∃ i : Nat, y = i := ⟨y.toNat, by omega⟩
  have hi : i < ps.length := by omega
  have hi' : (i : Int) < ps.length := by omega
  obtain ⟨g1, q, rfl, hq, d0, d1, d2, d3⟩ := Rd.q (zAn hJ.own) hi
  have of := own_frz hJ.own
  have T4 := Lib.hid (hJ.setq (j := 0) hq (by omega) z)
  clear hJ hq T
  show wpList _ _ _ (_ :: _ :: _ :: []) _ _
  go_upto_region 6 with fail
  clear d0 d1 d2 d3 of
  generalize w9.setCell _ _ = w4 at *
  have k0 := zAb T4.out.bx 0 rfl
  have kf := zAh T4.out.bx
  have r0 := zAb T4.out.res 0 rfl
  have rf := zAh T4.out.res
  have hlb := zAg T4.out.bx
  simp only [zgc, zga, zgb] at k0 r0
  go_wp2
  (try go_light)
  refine bodyPost_ret (v := .agg #[.slice (some ⟨g1, 0, none⟩) (ps.set i (q.put 0 z)).length c]) (by simp [results, Tryz.results190, go_sem, *]) rfl ?_
  refine ⟨(some ⟨g1, 0, none⟩), c, ps.set i (q.put 0 z), rfl, by (first | omega | (have h9 := hp2; simp at h9 ⊢; omega) | simp), ?_, ?_, ?_⟩
  ·exact zAo T4.out.own (zAk T4.out.own T4.out.res (by decide)) _
  ·exact T4.out.cur.set hgw _
  ·exact T4.out.fr.setCell (Or.inr (Nat.le_refl _)) _
 by_cases e1 : k = 1
 ·subst e1
  go_upto_region 7 with fail
  refine wp_region_tail 7 (fun w9 => JP w w9 g w.heap.size bb A c ps) (Fr (· = g)) (by kernel_rfl) (by kernel_rfl) (T.out.bel (zAd _ 1)) ?_
  clear k0 kf r0 rf hlb
  show Det _ _ _ _ _ _ (_ :: _ :: _ :: _ :: _ :: _ :: _ :: []) _ _
  refine Det.val ?_ rfl ?_ (Fr.refl _) ?_
  rotate_left
  ·intro f w9 hJ
   have k0 := zAb hJ.bx 0 rfl; have kf := zAh hJ.bx; simp only [zgc, zga, zgb] at k0
   go_simp
   with_reducible rfl
  (try simp only [putA, zgd, zgf, zge, zgg])
  refine Det.val ?_ rfl ?_ (Fr.refl _) ?_
  rotate_left
  ·intro f w9 hJ
   have k0 := zAb hJ.bx 0 rfl; have kf := zAh hJ.bx; simp only [zgc, zga, zgb] at k0
   go_simp
   with_reducible rfl
  (try simp only [putA, zgd, zgf, zge, zgg])
  refine Det.val ?_ rfl ?_ (Fr.refl _) ?_
  rotate_left
  ·intro f w9 hJ
   skip
   go_simp
   with_reducible rfl
  (try simp only [putA, zgd, zgf, zge, zgg])
  refine Det.val ?_ rfl ?_ (Fr.refl _) ?_
  rotate_left
  ·intro f w9 hJ
   skip
   go_simp
   with_reducible rfl
  (try simp only [putA, zgd, zgf, zge, zgg])
  refine Det.flo (rI 0 (ps.length - 1)) rfl rfl (fun _ _ _ h _ => h) ?_ ?_
  ·intro f w9 K hJ hR hK
   have HK := Lib.hid hK
   clear hK hR
   go_simp
   go_at_call 132
   refine (zAt g (ps.length : Int) _ hJ.cur (by omega) (by omega)).mono ?_
   rintro e w10 ⟨x, rfl, h0, h1, cu, fr⟩
   exact HK.out _ _ (hJ.cs fr cu) fr ⟨x, rfl, by omega, by omega⟩
  (try simp only [putA, zgd, zgf, zge, zgg])
  refine Det.val ?_ rfl ?_ (Fr.refl _) ?_
  rotate_left
  ·intro f w9 hJ
   skip
   go_simp
   with_reducible rfl
  (try simp only [putA, zgd, zgf, zge, zgg])
  refine Det.flo (rV) rfl rfl (fun _ _ _ h _ => h) ?_ ?_
  ·intro f w9 K hJ hR hK
   have HK := Lib.hid hK
   clear hK hR
   go_simp
   go_at_call 217
   refine (cur_any g _ hJ.cur).mono ?_
   rintro e w10 ⟨x, y, z, rfl, _, _, _, cu, fr⟩
   exact HK.out _ _ (hJ.cs fr cu) fr ⟨x, y, z, rfl⟩
  (try simp only [putA, zgd, zgf, zge, zgg])
  refine Det.nil ?_
  intro f w9 hJ hR
  obtain ⟨y, hy, y0, y1⟩ := hR (30, rI 0 (ps.length - 1)) (by simp [addF, dropF])
  obtain ⟨za, zb, zc, hz⟩ := hR (32, rV) (by simp [addF, dropF])
  clear hR
  simp only [hy, hz]
  clear hy hz
  obtain ⟨i, rfl⟩ : ∃ i : Nat, y = i := ⟨y.toNat, by omega⟩
  have hi : i < ps.length := by omega
  have hi' : (i : Int) < ps.length := by omega
  obtain ⟨g1, q, rfl, hq, d0, d1, d2, d3⟩ := Rd.q (zAn hJ.own) hi
  have of := own_frz hJ.own
  have T4 := Lib.hid (((hJ.setq (j := 1) hq (by omega) za).setq (i := i) (q := q.put 1 za) (j := 2) (by simp [hi]) (by omega) zb).setq (i := i) (q := (q.put 1 za).put 2 zb) (j := 3) (by simp [hi]) (by omega) zc)
  clear hJ hq T
  show wpList _ _ _ (_ :: _ :: _ :: []) _ _
  go_upto_region 8 with fail
  clear d0 d1 d2 d3 of
  generalize ((w9.setCell _ _).setCell _ _).setCell _ _ = w4 at *
  have k0 := zAb T4.out.bx 0 rfl
  have kf := zAh T4.out.bx
  have r0 := zAb T4.out.res 0 rfl
  have rf := zAh T4.out.res
  have hlb := zAg T4.out.bx
  simp only [zgc, zga, zgb] at k0 r0
  go_wp2
  (try go_light)
  refine bodyPost_ret (v := .agg #[.slice (some ⟨g1, 0, none⟩) (((ps.set i (q.put 1 za)).set i ((q.put 1 za).put 2 zb)).set i (((q.put 1 za).put 2 zb).put 3 zc)).length c]) (by simp [results, Tryz.results190, go_sem, *]) rfl ?_
  refine ⟨(some ⟨g1, 0, none⟩), c, ((ps.set i (q.put 1 za)).set i ((q.put 1 za).put 2 zb)).set i (((q.put 1 za).put 2 zb).put 3 zc), rfl, by (first | omega | (have h9 := hp2; simp at h9 ⊢; omega) | simp), ?_, ?_, ?_⟩
  ·exact zAo T4.out.own (zAk T4.out.own T4.out.res (by decide)) _
  ·exact T4.out.cur.set hgw _
  ·exact T4.out.fr.setCell (Or.inr (Nat.le_refl _)) _
 by_cases e2 : k = 2
 ·subst e2
  obtain ⟨m, hm⟩ : ∃ m, m = ps.length - 1 := ⟨_, rfl⟩
  have hm1 : m < ps.length := by omega
  have hm2 : (m : Int) < ps.length := by omega
  have hwr : IntKind.i64.wrap ((ps.length : Int) - 1) = (m : Int) := by rw [IntWalk.i64_in _ (by omega)]; omega
  have HWR := Lib.hid hwr
  clear hm hwr
  obtain ⟨g1, q, rfl, hq, -, -, -, -⟩ := Rd.q (zAn T.out.own) hm1
  have HQ := Lib.hid hq
  clear hq
  go_upto_region 9 with fail
  refine wp_region_tail 9 (fun w9 => JP w w9 g w.heap.size bb (some ⟨g1, 0, none⟩) c ps) (Fr (· = g)) (by kernel_rfl) (by kernel_rfl) (T.out.bel (zAd _ 1)) ?_
  clear k0 kf r0 rf hlb
  show Det _ _ _ _ _ _ (_ :: _ :: _ :: _ :: _ :: _ :: _ :: _ :: _ :: []) _ _
  refine Det.val ?_ rfl ?_ (Fr.refl _) ?_
  rotate_left
  ·intro f w9 hJ
   have k0 := zAb hJ.bx 0 rfl; have kf := zAh hJ.bx; simp only [zgc, zga, zgb] at k0
   go_simp
   with_reducible rfl
  (try simp only [putA, zgd, zgf, zge, zgg])
  refine Det.val ?_ rfl ?_ (Fr.refl _) ?_
  rotate_left
  ·intro f w9 hJ
   have k0 := zAb hJ.bx 0 rfl; have kf := zAh hJ.bx; simp only [zgc, zga, zgb] at k0
   go_simp
   with_reducible rfl
  (try simp only [putA, zgd, zgf, zge, zgg])
  refine Det.val ?_ rfl ?_ (Fr.refl _) ?_
  rotate_left
  ·intro f w9 hJ
   have k0 := zAb hJ.bx 0 rfl; have kf := zAh hJ.bx; simp only [zgc, zga, zgb] at k0
   go_simp
   with_reducible rfl
  (try simp only [putA, zgd, zgf, zge, zgg])
  refine Det.val ?_ rfl ?_ (Fr.refl _) ?_
  rotate_left
  ·intro f w9 hJ
   have k0 := zAb hJ.bx 0 rfl; have kf := zAh hJ.bx; simp only [zgc, zga, zgb] at k0
   go_simp
   with_reducible rfl
  (try simp only [putA, zgd, zgf, zge, zgg])
  refine Det.val ?_ rfl ?_ (Fr.refl _) ?_
  rotate_left
  ·intro f w9 hJ
   skip
   go_simp
   with_reducible rfl
  (try simp only [putA, zgd, zgf, zge, zgg])
  refine Det.val ?_ rfl ?_ (Fr.refl _) ?_
  rotate_left
  ·intro f w9 hJ
   have hwr := HWR.out
   go_simp
   with_reducible rfl
  (try simp only [putA, zgd, zgf, zge, zgg])
  refine Det.val ?_ rfl ?_ (Fr.refl _) ?_
  rotate_left
  ·intro f w9 hJ
   skip
   go_simp
   with_reducible rfl
  (try simp only [putA, zgd, zgf, zge, zgg])
  refine Det.val ?_ rfl ?_ (Fr.refl _) ?_
  rotate_left
  ·intro f w9 hJ
   obtain ⟨d0, d1, d2, d3⟩ := hJ.cells HQ.out
   go_simp
   with_reducible rfl
  (try simp only [putA, zgd, zgf, zge, zgg])
  refine Det.flo (rBq q g) rfl rfl (fun _ _ _ h hf => rBq_fr h hf) ?_ ?_
  ·intro f w9 K hJ hR hK
   have HK := Lib.hid hK
   clear hK
   clear hR
   have hgl9 := hJ.cur.lt
   go_simp
   exact HK.out _ _ (hJ.bel (zAa _ _)) ((Fr.refl _ _).alloc _) ⟨_, rfl, zAj _ rfl, hgl9⟩
  (try simp only [putA, zgd, zgf, zge, zgg])
  refine Det.nil ?_
  intro f w9 hJ hR
  obtain ⟨kk, h58, hb58, hgk⟩ := hR (45, rBq q g) (by simp [addF, dropF])
  clear hR
  simp only [h58]
  clear h58
  have hnl := zAg hb58
  have n0 := zAb hb58 0 rfl
  have n1 := zAb hb58 1 rfl
  have n2 := zAb hb58 2 rfl
  have n3 := zAb hb58 3 rfl
  have k0 := zAb hJ.bx 0 rfl; have kf := zAh hJ.bx; simp only [zgc, zga, zgb] at k0
  simp only [zgc, zga, zgb] at n0 n1 n2 n3
  have TH := Lib.hid hJ
  clear hJ hb58 T
  obtain ⟨i0, hi, hz0, hz1, hz2⟩ := info_parts infoPt
  show wpList _ _ _ (_ :: _ :: _ :: []) _ _
  have hlo9 : w.heap.size ≤ w9.heap.size := TH.out.fr.size
  go_wp2_with (at_builtin; refine wpList_append_own _ rfl _ _ 29 rfl (w.heap.size) 177 i0 (.agg #[.int .i64 0, .int .i64 0, .int .i64 0, .int .i64 0]) 4 32 Tryz.underlying29 hi hz0 hz1 hz2 rfl (by decide) _ _ _ rfl (TH.out.own) ⟨kk, 0, none⟩ 1 1 [.int .i64 q.t, .int .i64 q.a, .int .i64 q.b, .int .i64 q.c] rfl rfl ?cn1 ?cn2 ?cn3 ?cn4 ?cn5 ?_)
  try case cn1 =>
   intro j y hy
   match j, hy with
   | 0, hy => (simp at hy; subst hy; simp [Addr.add, n0, n1, n2, n3])
   | 1, hy => (simp at hy; subst hy; simp [Addr.add, n0, n1, n2, n3])
   | 2, hy => (simp at hy; subst hy; simp [Addr.add, n0, n1, n2, n3])
   | 3, hy => (simp at hy; subst hy; simp [Addr.add, n0, n1, n2, n3])
  try case cn2 => simp [Value.oneCell']
  case cn3 => unfold maxLen; skip; omega
  case cn4 => skip; omega
  try case cn5 => first | omega | (simp <;> omega)
  intro v6 w6 own6 hg6 _
  obtain ⟨A6, c6, rfl, rd6⟩ := zAq own6
  clear rd6
  obtain ⟨A', c', T4'⟩ := TH.out.put (q := q) own6 hg6
  have e6 := zAp TH.out.bx hg6 (zAk TH.out.own TH.out.bx (by decide))
  have g0 := zAb e6 0 rfl
  have gf := zAh e6
  simp only [zgc, zga, zgb] at g0
  have T4h := Lib.hid T4'
  clear T4' own6 hi hz0 hz1 hz2 k0 kf n0 n1 n2 n3 hg6 e6 TH
  go_upto_region 10 with fail
  obtain ⟨ps', hps'⟩ : ∃ p, p = ps ++ [q] := ⟨_, rfl⟩
  have hp9 : ps'.length ≤ 12 := by rw [hps']; simp; omega
  rw [← hps'] at T4h
  have T4 := T4h
  clear T4h hps' g0 gf
  generalize w6.setCell _ _ = w4 at *
  have k0 := zAb T4.out.bx 0 rfl
  have kf := zAh T4.out.bx
  have r0 := zAb T4.out.res 0 rfl
  have rf := zAh T4.out.res
  have hlb := zAg T4.out.bx
  simp only [zgc, zga, zgb] at k0 r0
  go_wp2
  (try go_light)
  refine bodyPost_ret (v := .agg #[.slice A' (ps').length c']) (by simp [results, Tryz.results190, go_sem, *]) rfl ?_
  refine ⟨A', c', ps', rfl, by (first | omega | (have h9 := hp2; simp at h9 ⊢; omega) | simp), ?_, ?_, ?_⟩
  ·exact zAo T4.out.own (zAk T4.out.own T4.out.res (by decide)) _
  ·exact T4.out.cur.set hgw _
  ·exact T4.out.fr.setCell (Or.inr (Nat.le_refl _)) _
 by_cases e3 : k = 3
 ·subst e3
  go_upto_region 12 with fail
  have T4 := Lib.hid T.out.none0
  clear k0 kf r0 rf hlb T
  generalize w3.setCell _ _ = w4 at *
  have k0 := zAb T4.out.bx 0 rfl
  have kf := zAh T4.out.bx
  have r0 := zAb T4.out.res 0 rfl
  have rf := zAh T4.out.res
  have hlb := zAg T4.out.bx
  simp only [zgc, zga, zgb] at k0 r0
  go_wp2
  (try go_light)
  refine bodyPost_ret (v := .agg #[.slice none 0 0]) (by simp [results, Tryz.results190, go_sem, *]) rfl ?_
  refine ⟨none, 0, ([] : List Q), rfl, by (first | omega | (have h9 := hp2; simp at h9 ⊢; omega) | simp), ?_, ?_, ?_⟩
  ·exact zAo T4.out.own (zAk T4.out.own T4.out.res (by decide)) _
  ·exact T4.out.cur.set hgw _
  ·exact T4.out.fr.setCell (Or.inr (Nat.le_refl _)) _
 have k0 := zAb T.out.bx 0 rfl
 have kf := zAh T.out.bx
 have r0 := zAb T.out.res 0 rfl
 have rf := zAh T.out.res
 have hlb := zAg T.out.bx
 simp only [zgc, zga, zgb] at k0 r0
 go_wp2
 (try go_light)
 refine bodyPost_ret (v := .agg #[.slice A (ps).length c]) (by simp [results, Tryz.results190, go_sem, *]) rfl ?_
 refine ⟨A, c, ps, rfl, by (first | omega | (have h9 := hp2; simp at h9 ⊢; omega) | simp), ?_, ?_, ?_⟩
 ·exact zAo T.out.own (zAk T.out.own T.out.res (by decide)) _
 ·exact T.out.cur.set hgw _
 ·exact T.out.fr.setCell (Or.inr (Nat.le_refl _)) _
end Go.Proofs.YtnphjhbfpoekpaaGreat
