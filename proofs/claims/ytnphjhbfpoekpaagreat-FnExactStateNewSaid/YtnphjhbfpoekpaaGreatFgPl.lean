import Derived.Test.YtnphjhbfpoekpaaGreatFfPl
namespace Go.Proofs.YtnphjhbfpoekpaaGreat
set_option linter.unusedSimpArgs false
set_option linter.unusedVariables false
set_option linter.unnecessarySimpa false
open Go.RowKit
def noRm : Rm := ⟨[], [], [], [], []⟩
theorem noRm_own (w : World) (lo : Nat) : RoomOwn w lo ⟨none, none, none, none, none, 0, 0, 0, 0, 0, 0, 0, 0, 0, 0⟩ noRm [] :=
  ⟨by decide, by decide, by decide, by decide, by decide, own_nil _ _ _ _, own_nil _ _ _ _, own_nil _ _ _ _, OwnP.nil _ _, own_nil _ _ _ _, fun i x h => by simp at h⟩
theorem are_in {ps : List Int} {ns : List Q} {nd : List Int} (h : areB ps ns nd = true) {i : Nat} {x : Int} (hx : nd[i]? = some x) : 0 ≤ x ∧ x < ns.length := by
  simp only [areB, inNodes, Bool.and_eq_true, List.all_eq_true] at h
  have := h.1 x (List.mem_of_getElem? hx)
  simp at this
  omega
theorem moved_none1 {mv : V → List Q → Option (List Q)} {r : Rm} {j : J} {nd : List Int} (h1 : r.okB = true) (h2 : j.okB = true) (h3 : jobNodesB r j nd = true) (hn : nodesV (mv j.need) nd r.profs = none) : movedV mv r j nd = none := by
  unfold movedV; rw [if_pos (by rw [h1, h2, h3]; rfl), hn]
theorem moved_some1 {mv : V → List Q → Option (List Q)} {r : Rm} {j : J} {nd : List Int} {rq : List (List Q)} (h1 : r.okB = true) (h2 : j.okB = true) (h3 : jobNodesB r j nd = true) (hn : nodesV (mv j.need) nd r.profs = some rq) : movedV mv r j nd = (match mv j.lic r.lics with | none => none | some l => some { r with profs := rq, lics := l }) := by
  unfold movedV; rw [if_pos (by rw [h1, h2, h3]; rfl), hn]
  cases mv j.lic r.lics <;> rfl
theorem moved_bad {mv : V → List Q → Option (List Q)} {r : Rm} {j : J} {nd : List Int} (h : (r.okB && j.okB && jobNodesB r j nd) = false) : movedV mv r j nd = none := by
  unfold movedV; rw [if_neg (by rw [h]; decide)]
set_option maxHeartbeats 8000000 in
set_option maxRecDepth 20000 in
theorem moved_any (F : Nat) (mv : V → List Q → Option (List Q)) (lo hi : Int)
    (eg : ∀ args w, (callFunc F args).run Tryz.prog w = .ok (.enter F args) w)
    (hmv : ∀ (A : Option Addr) (n c : Nat) (ps : List Q) (v : V) (W : World), n ≤ 1048576 → Rd W A n 4 (flat ps) → (∀ g, A = some ⟨g, 0, none⟩ → g < W.heap.size) → Calls Tryz.prog F #[.agg #[.slice A n c], .int .i64 lo, .int .i64 hi, .agg #[.int .i64 v.A, .int .i64 v.B, .int .i64 v.C]] W fun e W' => ∃ u, e = .returned (.tuple #[.agg #[u], .bool (mv v ps).isSome]) ∧ W'.ownsRow W.heap.size 177 4 u ((mv v ps).getD []).length (flat ((mv v ps).getD [])) ∧ Below W.heap.size W W')
    (hml : ∀ v ps p, mv v ps = some p → p.length ≤ 1048576)
    (a : RA) (r : Rm) (xs : List Value) (lo0 : Nat) (j : J) (D : Option Addr) (k e : Nat) (nd : List Int) (w : World) (h : RoomOwn w lo0 a r xs) (hk : k ≤ 1048576) (hke : k ≤ e) (he : e ≤ 9223372036854775807) (hd : Rd w D k 1 (ints nd)) (hl3 : ∀ g, D = some ⟨g, 0, none⟩ → g < w.heap.size) :
    Calls Tryz.prog 104 #[a.v, .agg #[.int .i64 j.id, .int .i64 j.pr, .int .i64 j.nn, .int .i64 j.na, .int .i64 j.nb, .int .i64 j.nc, .int .i64 j.la, .int .i64 j.lb, .int .i64 j.lc, .int .i64 j.wl, .int .i64 j.lv], .int .i64 lo, .int .i64 hi, .slice D k e, .func (.func F) #[] #[]] w fun e w' => ∃ a' xs', e = .returned (.tuple #[RA.v a', .bool (movedV mv r j nd).isSome]) ∧ RoomOwn w' w.heap.size a' ((movedV mv r j nd).getD noRm) xs' ∧ Below w.heap.size w w' := by
  have H := Lib.hid h
  have HML := Lib.hid hml
  have HMV := Lib.hid hmv
  obtain ⟨A, B, U, R, L, n, m, nu, np, nl, c, d, cu, cp, cl⟩ := a
  dsimp only [RA.v]
  have hdl := hd.ilen
  have hk9 : k ≤ 9223372036854775807 := by omega
  have HK := Lib.hid hk
  have HD := Lib.hid hd
  have HL3 := Lib.hid hl3
  have HDL := Lib.hid hdl
  clear h hk hd hl3 hdl hml hmv
  obtain ⟨ro, hro⟩ : ∃ b, r.okB = b := ⟨_, rfl⟩
  obtain ⟨jo, hjo⟩ : ∃ b, j.okB = b := ⟨_, rfl⟩
  obtain ⟨jn, hjn⟩ : ∃ b, jobNodesB r j nd = b := ⟨_, rfl⟩
  have HRO := Lib.hid hro
  have HJO := Lib.hid hjo
  have HJN := Lib.hid hjn
  clear hro hjo hjn
  go_enter Tryz.func104, Tryz.ntmps104
  have W3 := Lib.hid (zAc (zAc (zAc (Below.refl w.heap.size w) (zAa w (.cells #[.slice A n c, .slice B m d, .slice U nu cu, .slice R np cp, .slice L nl cl] 33))) (zAa _ (.cells #[.int .i64 j.id, .int .i64 j.pr, .int .i64 j.nn, .int .i64 j.na, .int .i64 j.nb, .int .i64 j.nc, .int .i64 j.la, .int .i64 j.lb, .int .i64 j.lc, .int .i64 j.wl, .int .i64 j.lv] 95))) (zAa _ (.cells #[.slice none 0 0, .slice none 0 0, .slice none 0 0, .slice none 0 0, .slice none 0 0] 33)))
  have XJ0 := Lib.hid (show (((w.alloc (.cells #[.slice A n c, .slice B m d, .slice U nu cu, .slice R np cp, .slice L nl cl] 33)).alloc (.cells #[.int .i64 j.id, .int .i64 j.pr, .int .i64 j.nn, .int .i64 j.na, .int .i64 j.nb, .int .i64 j.nc, .int .i64 j.la, .int .i64 j.lb, .int .i64 j.lc, .int .i64 j.wl, .int .i64 j.lv] 95)).alloc (.cells #[.slice none 0 0, .slice none 0 0, .slice none 0 0, .slice none 0 0, .slice none 0 0] 33)).heap[w.heap.size + 1]? = some (.cells #[.int .i64 j.id, .int .i64 j.pr, .int .i64 j.nn, .int .i64 j.na, .int .i64 j.nb, .int .i64 j.nc, .int .i64 j.la, .int .i64 j.lb, .int .i64 j.lc, .int .i64 j.wl, .int .i64 j.lv] 95 (0, 0)) from zAu (zAk _ (by simp)) _)
  have XZ0 := Lib.hid (show (((w.alloc (.cells #[.slice A n c, .slice B m d, .slice U nu cu, .slice R np cp, .slice L nl cl] 33)).alloc (.cells #[.int .i64 j.id, .int .i64 j.pr, .int .i64 j.nn, .int .i64 j.na, .int .i64 j.nb, .int .i64 j.nc, .int .i64 j.la, .int .i64 j.lb, .int .i64 j.lc, .int .i64 j.wl, .int .i64 j.lv] 95)).alloc (.cells #[.slice none 0 0, .slice none 0 0, .slice none 0 0, .slice none 0 0, .slice none 0 0] 33)).heap[w.heap.size + 2]? = some (.cells #[.slice none 0 0, .slice none 0 0, .slice none 0 0, .slice none 0 0, .slice none 0 0] 33 (0, 0)) from zAk _ (by simp))
  go_wp2_with fail
  refine (roomOk_any ⟨A, B, U, R, L, n, m, nu, np, nl, c, d, cu, cp, cl⟩ r _ (H.out.bel W3.out).rd).mono ?_
  rintro e1 w1 ⟨rfl, hb1⟩
  rw [HRO.out]
  have hs1 := hb1.size
  (try simp at hs1)
  have k10 := fun o => hb1.cell (p := ⟨w.heap.size, o, none⟩) zOm
  have f10 := fun o => hb1.frozen (p := ⟨w.heap.size, o, none⟩) zOm
  have k11 := fun o => hb1.cell (p := ⟨w.heap.size + 1, o, none⟩) zOm
  have f11 := fun o => hb1.frozen (p := ⟨w.heap.size + 1, o, none⟩) zOm
  have k12 := fun o => hb1.cell (p := ⟨w.heap.size + 2, o, none⟩) zOm
  have f12 := fun o => hb1.frozen (p := ⟨w.heap.size + 2, o, none⟩) zOm
  have y1 : w.heap.size + 2 < w1.heap.size := by omega
  have B1 := Lib.hid (zAc W3.out hb1)
  have XJ1 := Lib.hid (zAg XJ0.out hb1)
  have XZ1 := Lib.hid (zAg XZ0.out hb1)
  clear hb1
  cases ro
  · go_wp2
    go_light
    refine bodyPost_ret (v := .tuple #[.agg #[.slice none 0 0, .slice none 0 0, .slice none 0 0, .slice none 0 0, .slice none 0 0], .bool false]) (by simp [results, Tryz.results104, go_sem, *]) rfl ?_
    rw [moved_bad (mv := mv) (r := r) (j := j) (nd := nd) (by rw [HRO.out]; rfl)]
    exact ⟨⟨none, none, none, none, none, 0, 0, 0, 0, 0, 0, 0, 0, 0, 0⟩, [], rfl, noRm_own _ _, bel_set5 B1.out (by omega) _ _ _ _ _⟩
  go_wp2_with fail
  refine (jobOk_raw j _).mono ?_
  rintro e2 w2 ⟨rfl, hb2⟩
  rw [HJO.out]
  have hs2 := hb2.size
  (try simp at hs2)
  have k20 := fun o => hb2.cell (p := ⟨w.heap.size, o, none⟩) zOm
  have f20 := fun o => hb2.frozen (p := ⟨w.heap.size, o, none⟩) zOm
  have k21 := fun o => hb2.cell (p := ⟨w.heap.size + 1, o, none⟩) zOm
  have f21 := fun o => hb2.frozen (p := ⟨w.heap.size + 1, o, none⟩) zOm
  have k22 := fun o => hb2.cell (p := ⟨w.heap.size + 2, o, none⟩) zOm
  have f22 := fun o => hb2.frozen (p := ⟨w.heap.size + 2, o, none⟩) zOm
  have y2 : w.heap.size + 2 < w2.heap.size := by omega
  have B2 := Lib.hid (zAc B1.out hb2)
  have XJ2 := Lib.hid (zAg XJ1.out hb2)
  have XZ2 := Lib.hid (zAg XZ1.out hb2)
  clear hb2
  cases jo
  · go_wp2
    go_light
    refine bodyPost_ret (v := .tuple #[.agg #[.slice none 0 0, .slice none 0 0, .slice none 0 0, .slice none 0 0, .slice none 0 0], .bool false]) (by simp [results, Tryz.results104, go_sem, *]) rfl ?_
    rw [moved_bad (mv := mv) (r := r) (j := j) (nd := nd) (by rw [HRO.out, HJO.out]; rfl)]
    exact ⟨⟨none, none, none, none, none, 0, 0, 0, 0, 0, 0, 0, 0, 0, 0⟩, [], rfl, noRm_own _ _, bel_set5 B2.out (by omega) _ _ _ _ _⟩
  go_wp2_with fail
  have O2 := Lib.hid (H.out.bel B2.out)
  refine (areJobNodes_any A B n c m d r.par r.nodes j D k e nd _ H.out.n H.out.m O2.out.rd.par O2.out.rd.nodes O2.out.rd.ltA O2.out.rd.ltB HK.out hke he (HD.out.below HL3.out B2.out) (zAi HL3.out B2.out)).mono ?_
  rintro e3 w3 ⟨rfl, hb3⟩
  rw [show (decide nd.Nodup && areB r.par r.nodes nd && decide ((nd.length : Int) = j.nn)) = jn from HJN.out]
  have hs3 := hb3.size
  (try simp at hs3)
  have k30 := fun o => hb3.cell (p := ⟨w.heap.size, o, none⟩) zOm
  have f30 := fun o => hb3.frozen (p := ⟨w.heap.size, o, none⟩) zOm
  have k31 := fun o => hb3.cell (p := ⟨w.heap.size + 1, o, none⟩) zOm
  have f31 := fun o => hb3.frozen (p := ⟨w.heap.size + 1, o, none⟩) zOm
  have k32 := fun o => hb3.cell (p := ⟨w.heap.size + 2, o, none⟩) zOm
  have f32 := fun o => hb3.frozen (p := ⟨w.heap.size + 2, o, none⟩) zOm
  have y3 : w.heap.size + 2 < w3.heap.size := by omega
  have B3 := Lib.hid (zAc B2.out hb3)
  have XJ3 := Lib.hid (zAg XJ2.out hb3)
  have XZ3 := Lib.hid (zAg XZ2.out hb3)
  clear hb3
  cases jn
  · go_wp2
    go_light
    refine bodyPost_ret (v := .tuple #[.agg #[.slice none 0 0, .slice none 0 0, .slice none 0 0, .slice none 0 0, .slice none 0 0], .bool false]) (by simp [results, Tryz.results104, go_sem, *]) rfl ?_
    rw [moved_bad (mv := mv) (r := r) (j := j) (nd := nd) (by rw [HRO.out, HJO.out, HJN.out]; rfl)]
    exact ⟨⟨none, none, none, none, none, 0, 0, 0, 0, 0, 0, 0, 0, 0, 0⟩, [], rfl, noRm_own _ _, bel_set5 B3.out (by omega) _ _ _ _ _⟩
  have HIN := Lib.hid (fun (i : Nat) (x : Int) (hx : nd[i]? = some x) => (are_in (ps := r.par) (ns := r.nodes) (nd := nd) (by have := HJN.out; unfold jobNodesB at this; simp only [Bool.and_eq_true] at this; exact this.1.2) hx))
  have HPL := Lib.hid ((room_parts HRO.out).2.2.1)
  go_wp2_with fail
  refine (copyRoom_any ⟨A, B, U, R, L, n, m, nu, np, nl, c, d, cu, cp, cl⟩ r xs lo0 _ (H.out.bel B3.out)).mono ?_
  rintro e4 w4 ⟨a1, xs1, rfl, ro4, hb4⟩
  have hs4 := hb4.size
  (try simp at hs4)
  have k40 := fun o => hb4.cell (p := ⟨w.heap.size, o, none⟩) zOm
  have f40 := fun o => hb4.frozen (p := ⟨w.heap.size, o, none⟩) zOm
  have k41 := fun o => hb4.cell (p := ⟨w.heap.size + 1, o, none⟩) zOm
  have f41 := fun o => hb4.frozen (p := ⟨w.heap.size + 1, o, none⟩) zOm
  have k42 := fun o => hb4.cell (p := ⟨w.heap.size + 2, o, none⟩) zOm
  have f42 := fun o => hb4.frozen (p := ⟨w.heap.size + 2, o, none⟩) zOm
  have y4 : w.heap.size + 2 < w4.heap.size := by omega
  have B4 := Lib.hid (zAc B3.out hb4)
  have XJ4 := Lib.hid (zAg XJ3.out hb4)
  have XZ4 := Lib.hid (zAg XZ3.out hb4)
  have hnp := (ro4.rd.lens).2.2.2.1
  obtain ⟨A1, B1, U1, R1, L1, n1, m1, nu1, np1, nl1, c1, d1, cu1, cp1, cl1⟩ := a1
  dsimp only [RA.v] at *
  have ro5 := ro4.mono (lo' := w.heap.size) (by omega)
  have bal := zAa w4 (.cells #[.slice A1 n1 c1, .slice B1 m1 d1, .slice U1 nu1 cu1, .slice R1 np1 cp1, .slice L1 nl1 cl1] 33)
  have M0 : Hid (MR w (w4.alloc (.cells #[.slice A1 n1 c1, .slice B1 m1 d1, .slice U1 nu1 cu1, .slice R1 np1 cp1, .slice L1 nl1 cl1] 33)) w4.heap.size ⟨A1, B1, U1, R1, L1, n1, m1, nu1, np1, nl1, c1, d1, cu1, cp1, cl1⟩ r xs1) := Lib.hid ⟨zAk _ rfl, ro5.bel bal, zAc B4.out bal, by omega⟩
  have XJ5 := Lib.hid (zAg XJ4.out bal)
  have XZ5 := Lib.hid (zAg XZ4.out bal)
  have HNP := Lib.hid hnp
  clear hb4 ro4 ro5 bal
  go_upto_region 4 with fail
  clear hs1 hs2 hs3 hs4 y1 y2 y3 k10 k11 k12 k20 k21 k22 k30 k31 k32 k40 k41 k42 f10 f11 f12 f20 f21 f22 f30 f31 f32 f40 f41 f42
  obtain ⟨bt, hbt⟩ : ∃ b, b = w4.heap.size := ⟨_, rfl⟩
  rw [← hbt] at M0 ⊢
  have hb2 : w.heap.size + 2 < bt := by omega
  clear hbt
  generalize w4.alloc _ = w5 at *
  go_wp2
  go_loopw [42] (fun i wr => ∃ (q : Nat) (rq : List (List Q)) (xq : List Value), q ≤ k ∧ i = .int .i64 q ∧ MR w wr bt ⟨A1, B1, U1, R1, L1, n1, m1, nu1, np1, nl1, c1, d1, cu1, cp1, cl1⟩ { r with profs := rq } xq ∧ wr.heap[w.heap.size + 1]? = some (.cells #[.int .i64 j.id, .int .i64 j.pr, .int .i64 j.nn, .int .i64 j.na, .int .i64 j.nb, .int .i64 j.nc, .int .i64 j.la, .int .i64 j.lb, .int .i64 j.lc, .int .i64 j.wl, .int .i64 j.lv] 95 (0, 0)) ∧ wr.heap[w.heap.size + 2]? = some (.cells #[.slice none 0 0, .slice none 0 0, .slice none 0 0, .slice none 0 0, .slice none 0 0] 33 (0, 0)) ∧ Hid (nodesV (mv j.need) (nd.drop q) rq = nodesV (mv j.need) nd r.profs)) (fun i _ => k - (intOf i).toNat)
  case atStart => exact ⟨0, r.profs, xs1, Nat.zero_le _, rfl, M0.out, XJ5.out, XZ5.out, Lib.hid rfl⟩
  case round =>
    clear M0 XJ5 XZ5
    obtain ⟨q, rq, xq, hq, rfl, M', J', Z', hnv⟩ := hrel
    obtain ⟨wo, rfl⟩ : ∃ x, x = wr := ⟨wr, rfl⟩
    have M1 := Lib.hid M'
    have XJ := Lib.hid J'
    have XZ := Lib.hid Z'
    clear M' J' Z' XJ0 XZ0 XJ1 XZ1 XJ2 XZ2 XJ3 XZ3 XJ4 XZ4 W3 O2
    have hbt := zAf M1.out.bx
    have hwz := zAf XZ.out
    have hlo := M1.out.hb
    have e3 := zAb M1.out.bx 3 rfl
    have j3 := zAb XJ.out 3 rfl
    have j4 := zAb XJ.out 4 rfl
    have j5 := zAb XJ.out 5 rfl
    simp only [zgc, zga, zgb] at e3 j3 j4 j5
    by_cases hlt : q < k
    · have hlt' : (q : Int) < k := by omega
      obtain ⟨g, z, rfl, hz, d0⟩ := HD.out.int hlt
      obtain ⟨z0, z1⟩ := HIN.out q z hz
      obtain ⟨zi, rfl⟩ : ∃ i : Nat, z = i := ⟨z.toNat, by omega⟩
      have hzi : zi < np1 := by have := HPL.out; have := HNP.out; omega
      have hzi' : (zi : Int) < np1 := by omega
      have D0 := (M1.out.bel.cell (p := ⟨g, q, none⟩) (HL3.out g rfl)).trans d0
      obtain ⟨gR, x, hgR, hx, cx⟩ := Rd.at_ (zAv M1.out.own.profs.own) hzi
      dsimp only at hgR
      subst hgR
      obtain ⟨p, hp⟩ : ∃ p, rq[zi]? = some p := ⟨_, zgh (by have := M1.out.own.profs.len; dsimp only at this; omega)⟩
      obtain ⟨hpl, hpo⟩ := M1.out.own.profs.each zi x p hx hp
      obtain ⟨B9, c9, rfl, hrd9⟩ := zAt hpo
      have HLT9 := Lib.hid (own_blk hpo)
      have HRD9 := Lib.hid hrd9
      have HPL9 := Lib.hid hpl
      have HP9 := Lib.hid hp
      have HZ9 := Lib.hid hz
      have hgRl := own_lt M1.out.own.profs.own gR rfl
      clear hz d0 hx hp hpl hpo hrd9 z0 z1 hlt
      go_upto_region 7 with fail
      go_region_held3 (fun w' => w'.cell? ⟨bt, 3, none⟩ = some (.slice (some ⟨gR, 0, none⟩) np1 cp1) ∧ w'.cell? ⟨gR, zi, none⟩ = some (.slice B9 p.length c9) ∧ w'.cell? ⟨w.heap.size + 1, 3, none⟩ = some (.int .i64 j.na) ∧ w'.cell? ⟨w.heap.size + 1, 4, none⟩ = some (.int .i64 j.nb) ∧ w'.cell? ⟨w.heap.size + 1, 5, none⟩ = some (.int .i64 j.nc)) (simp [go_sem, *, World.cell?_alloc_some, World.cell?_setCell_far, Nat.lt_add_right, Nat.ne_of_gt]) (first | ((refine (HMV.out B9 p.length c9 p j.need _ HPL9.out (HRD9.out.below HLT9.out (by first | exact zAd _ 1 | exact zAc (zAd _ 1) (zAa _ _) | exact zAc (zAa _ _) (zAd _ 1))) (zAi HLT9.out (by first | exact zAd _ 1 | exact zAc (zAd _ 1) (zAa _ _) | exact zAc (zAa _ _) (zAd _ 1)))).mono ?_); (rintro e w6 ⟨u6, rfl, own6, hb6⟩); (obtain ⟨X6, c6, rfl, _⟩ := zAt own6); (have hs6 := hb6.size); (try simp at hs6); (have hy6a : bt < w6.heap.size := by omega); (have hy6b : w.heap.size + 2 < w6.heap.size := by omega); (have hy6c : gR < w6.heap.size := by omega); (have hk6a := hb6.cell (p := ⟨bt, 3, none⟩) zOm); (have hf6a := hb6.frozen (p := ⟨bt, 3, none⟩) zOm); (have hk6b := hb6.cell (p := ⟨gR, zi, none⟩) zOm); (have hf6b := hb6.frozen (p := ⟨gR, zi, none⟩) zOm); (have hk6c := hb6.cell (p := ⟨w.heap.size + 1, 3, none⟩) zOm); (have hf6c := hb6.frozen (p := ⟨w.heap.size + 1, 3, none⟩) zOm); (have hk6d := hb6.cell (p := ⟨w.heap.size + 1, 4, none⟩) zOm); (have hf6d := hb6.frozen (p := ⟨w.heap.size + 1, 4, none⟩) zOm); (have hk6e := hb6.cell (p := ⟨w.heap.size + 1, 5, none⟩) zOm); (have hf6e := hb6.frozen (p := ⟨w.heap.size + 1, 5, none⟩) zOm); (try (have hy6f : wo.heap.size < w6.heap.size := (by omega); have hk6f := hb6.cell (p := ⟨wo.heap.size, 0, none⟩) zOm; have hf6f := hb6.frozen (p := ⟨wo.heap.size, 0, none⟩) zOm))))
      all_goals (first
        | (have B67 := Lib.hid (zAc (zAc (zAd wo 1) hb6) (zAa w6 (.cells #[.slice X6 ((mv j.need p).getD []).length c6] 31)))
           have bx7 : (w6.alloc (.cells #[.slice X6 ((mv j.need p).getD []).length c6] 31)).heap[w6.heap.size]? = some (.cells #[.slice X6 ((mv j.need p).getD []).length c6] 31 (0, 0)) := zAk _ rfl
           have own7 := zAn (lo' := wo.heap.size) (zAe own6 (zAa w6 (.cells #[.slice X6 ((mv j.need p).getD []).length c6] 31))) (by first | exact Nat.le_refl _ | (simp <;> omega))
           have hb17 : wo.heap.size ≤ w6.heap.size := by omega
           generalize w6.alloc (.cells #[.slice X6 ((mv j.need p).getD []).length c6] 31) = w7 at *
           generalize w6.heap.size = b17 at *)
        | (have B67 := Lib.hid (show Below wo.heap.size wo (w6.setCell ⟨wo.heap.size, 0, none⟩ (.slice X6 ((mv j.need p).getD []).length c6)) from (zAc (zAc (zAa wo (.cells #[.slice none 0 0] 31)) (zAd _ 1)) hb6).setCell (Nat.le_refl _) _)
           have bx6 : w6.heap[wo.heap.size]? = some (.cells #[.slice none 0 0] 31 (0, 0)) := zAg (bx_drew (zAk _ rfl)) hb6
           have bx7 : (w6.setCell ⟨wo.heap.size, 0, none⟩ (.slice X6 ((mv j.need p).getD []).length c6)).heap[wo.heap.size]? = some (.cells #[.slice X6 ((mv j.need p).getD []).length c6] 31 (0, 0)) := by simpa using zAq (i := 0) (v := .slice X6 ((mv j.need p).getD []).length c6) bx6
           have own7 := zAn (lo' := wo.heap.size) (zAo (a := ⟨wo.heap.size, 0, none⟩) own6 (zAm own6 bx6 (by decide)) (.slice X6 ((mv j.need p).getD []).length c6)) (by first | exact Nat.le_refl _ | (simp <;> omega))
           have hb17 : wo.heap.size ≤ wo.heap.size := Nat.le_refl _
           clear bx6
           generalize w6.setCell ⟨wo.heap.size, 0, none⟩ (.slice X6 ((mv j.need p).getD []).length c6) = w7 at *
           obtain ⟨b17, hb⟩ : ∃ b, b = wo.heap.size := ⟨_, rfl⟩
           rw [← hb] at bx7 ⊢
           clear hb))
      all_goals (
        have OWN7 := Lib.hid own7
        have BX7 := Lib.hid bx7
        have HG := Lib.hid hgRl
        clear own6 own7 bx7 hb6 hs6 hy6a hy6b hy6c hk6a hf6a hk6b hf6b hk6c hf6c hk6d hf6d hk6e hf6e
        have M7 := Lib.hid (M1.out.step B67.out)
        have XJ7 := Lib.hid (zAg XJ.out B67.out)
        have XZ7 := Lib.hid (zAg XZ.out B67.out)
        have z0 := zAb XZ7.out 0 rfl
        have z1 := zAb XZ7.out 1 rfl
        have z2 := zAb XZ7.out 2 rfl
        have z3 := zAb XZ7.out 3 rfl
        have z4 := zAb XZ7.out 4 rfl
        have zf := zAh XZ7.out
        simp only [zgc, zga, zgb] at z0 z1 z2 z3 z4
        have hz7 := zAf XZ7.out
        have HNV := Lib.hid ((nodesV_cons (mv := mv j.need) (ps := rq) HZ9.out).symm.trans hnv.out)
        have hgd : rq.getD (zi : Int).toNat [] = p := by simp [List.getD_eq_getElem?_getD, HP9.out]
        cases hmv1 : mv j.need p
        · simp only [hmv1, Option.isSome_none]
          have HN9 := Lib.hid (show nodesV (mv j.need) nd r.profs = none by rw [← HNV.out, hgd, hmv1])
          clear hmv1 hgd
          go_wp2
          go_light
          refine bodyPost_ret (v := .tuple #[.agg #[.slice none 0 0, .slice none 0 0, .slice none 0 0, .slice none 0 0, .slice none 0 0], .bool false]) (by simp [results, Tryz.results104, go_sem, *]) rfl ?_
          rw [show movedV mv r j nd = none from moved_none1 HRO.out HJO.out HJN.out HN9.out]
          exact ⟨⟨none, none, none, none, none, 0, 0, 0, 0, 0, 0, 0, 0, 0, 0⟩, [], rfl, noRm_own _ _, bel_set5 (zAc M1.out.bel B67.out) (by omega) _ _ _ _ _⟩
        · rename_i p2
          have HPL2 := Lib.hid (HML.out _ _ _ hmv1)
          simp only [hgd, hmv1, Option.isSome_some, zgg] at *
          have e7 := zAb M7.out.bx 3 rfl
          have c17 := zAb BX7.out 0 rfl
          have oR := own_frz M7.out.own.profs.own
          simp only [zgc, zga, zgb] at e7 c17
          have T8 := Lib.hid (M7.out.put hzi OWN7.out (by omega) HPL2.out (fun i y hi b hb => M1.out.own.profs.ltx hi hb) (fun b hb => own_lt M1.out.own.lics b (atB_own' hb)))
          have XJ8 := Lib.hid (bx_set (a := ⟨gR, zi, none⟩) XJ7.out (fun e => zAm M7.out.own.profs.own XJ7.out (by decide) gR rfl e.symm) (.slice X6 p2.length c6))
          have XZ8 := Lib.hid (bx_set (a := ⟨gR, zi, none⟩) XZ7.out (fun e => zAm M7.out.own.profs.own XZ7.out (by decide) gR rfl e.symm) (.slice X6 p2.length c6))
          have HNV8 := Lib.hid (show nodesV (mv j.need) (nd.drop (q + 1)) (rq.set zi p2) = nodesV (mv j.need) nd r.profs by simpa using HNV.out)
          go_upto_region 11 with fail
          clear z0 z1 z2 z3 z4 zf
          generalize w7.setCell _ _ = w8 at *
          go_wp2
          exact ⟨⟨q + 1, rq.set zi p2, _, by omega, by simp, T8.out, XJ8.out, XZ8.out, HNV8⟩, by simp [intOf]; omega⟩)
    · have hqk : q = k := by omega
      subst hqk
      have hlt' : ¬ (q : Int) < q := by omega
      have HNV := Lib.hid (show nodesV (mv j.need) nd r.profs = some rq by rw [← hnv.out, List.drop_of_length_le (by have := HDL.out; omega)]; rfl)
      have e4 := zAb M1.out.bx 4 rfl
      have j6 := zAb XJ.out 6 rfl
      have j7 := zAb XJ.out 7 rfl
      have j8 := zAb XJ.out 8 rfl
      simp only [zgc, zga, zgb] at e4 j6 j7 j8
      have hll : r.lics.length = nl1 := (M1.out.own.rd.lens).2.2.2.2
      go_wp2_with fail
      refine (HMV.out L1 nl1 cl1 r.lics j.lic _ M1.out.own.nl M1.out.own.rd.lics M1.out.own.rd.ltL).mono ?_
      rintro e w6 ⟨u6, rfl, own6, hb6⟩
      obtain ⟨X6, c6, rfl, -⟩ := zAt own6
      have M6 := Lib.hid (M1.out.step hb6)
      have XZ6 := Lib.hid (zAg XZ.out hb6)
      have bal := zAa w6 (.cells #[.slice X6 ((mv j.lic r.lics).getD []).length c6] 31)
      have M7 : Hid (MR w (w6.alloc (.cells #[.slice X6 ((mv j.lic r.lics).getD []).length c6] 31)) bt _ _ xq) := Lib.hid (M6.out.step bal)
      have XZ7 := Lib.hid (zAg XZ6.out bal)
      have OWN7 := Lib.hid (zAe own6 bal)
      have BX7 : Hid ((w6.alloc (.cells #[.slice X6 ((mv j.lic r.lics).getD []).length c6] 31)).heap[w6.heap.size]? = some (.cells #[.slice X6 ((mv j.lic r.lics).getD []).length c6] 31 (0, 0))) := Lib.hid (zAk _ rfl)
      clear bal own6
      go_upto_region 13 with fail
      generalize w6.alloc (.cells #[.slice X6 ((mv j.lic r.lics).getD []).length c6] 31) = w7 at *
      generalize w6.heap.size = b19 at *
      have z0 := zAb XZ7.out 0 rfl
      have z1 := zAb XZ7.out 1 rfl
      have z2 := zAb XZ7.out 2 rfl
      have z3 := zAb XZ7.out 3 rfl
      have z4 := zAb XZ7.out 4 rfl
      have zf := zAh XZ7.out
      simp only [zgc, zga, zgb] at z0 z1 z2 z3 z4
      cases hml1 : mv j.lic r.lics
      · simp only [Option.isSome_none]
        have HN9 := Lib.hid (show movedV mv r j nd = none by rw [moved_some1 HRO.out HJO.out HJN.out HNV.out, hml1])
        clear hml1
        go_wp2
        go_light
        refine bodyPost_ret (v := .tuple #[.agg #[.slice none 0 0, .slice none 0 0, .slice none 0 0, .slice none 0 0, .slice none 0 0], .bool false]) (by simp [results, Tryz.results104, go_sem, *]) rfl ?_
        rw [HN9.out]
        exact ⟨⟨none, none, none, none, none, 0, 0, 0, 0, 0, 0, 0, 0, 0, 0⟩, [], rfl, noRm_own _ _, bel_set5 M7.out.bel (by omega) _ _ _ _ _⟩
      · rename_i l
        have HPL2 := Lib.hid (HML.out _ _ _ hml1)
        have HN9 := Lib.hid (show movedV mv r j nd = some { r with profs := rq, lics := l } by rw [moved_some1 HRO.out HJO.out HJN.out HNV.out, hml1])
        simp only [hml1, Option.isSome_some, zgg] at OWN7 BX7 ⊢
        clear hml1
        have e7 := zAb M7.out.bx 4 rfl
        have ef7 := zAh M7.out.bx
        have c19 := zAb BX7.out 0 rfl
        simp only [zgc, zga, zgb] at e7 c19
        have T8 := Lib.hid (M7.out.lic OWN7.out (by omega) HPL2.out (fun i y hi b hb => M1.out.own.profs.ltx hi hb))
        have XZ8 := Lib.hid (bx_set (a := ⟨bt, 4, none⟩) XZ7.out (by show w.heap.size + 2 ≠ bt; omega) (.slice X6 l.length c6))
        go_upto_region 16 with fail
        clear z0 z1 z2 z3 z4 zf e7 ef7 c19
        generalize w7.setCell _ _ = w8 at *
        have e0 := zAb T8.out.bx 0 rfl
        have e1 := zAb T8.out.bx 1 rfl
        have e2 := zAb T8.out.bx 2 rfl
        have e3 := zAb T8.out.bx 3 rfl
        have e4 := zAb T8.out.bx 4 rfl
        have z0 := zAb XZ8.out 0 rfl
        have z1 := zAb XZ8.out 1 rfl
        have z2 := zAb XZ8.out 2 rfl
        have z3 := zAb XZ8.out 3 rfl
        have z4 := zAb XZ8.out 4 rfl
        have zf := zAh XZ8.out
        simp only [zgc, zga, zgb] at e0 e1 e2 e3 e4 z0 z1 z2 z3 z4
        go_wp2
        go_light
        refine bodyPost_ret (v := .tuple #[.agg #[.slice A1 n1 c1, .slice B1 m1 d1, .slice U1 nu1 cu1, .slice R1 np1 cp1, .slice X6 l.length c6], .bool true]) (by simp [results, Tryz.results104, go_sem, *]) rfl ?_
        rw [HN9.out]
        exact ⟨⟨A1, B1, U1, R1, X6, n1, m1, nu1, np1, l.length, c1, d1, cu1, cp1, c6⟩, rfl, ⟨xq, T8.out.own.box5 XZ8.out _ _ _ _ _⟩, bel_set5 T8.out.bel (by omega) _ _ _ _ _⟩
end Go.Proofs.YtnphjhbfpoekpaaGreat
