import Derived.Test.YtnphjhbfpoekpaaGreatWjPl
import Derived.Test.YtnphjhbfpoekpaaGreatA20Pl
import Derived.Test.YtnphjhbfpoekpaaGreatA13Pl
import Derived.Test.YtnphjhbfpoekpaaGreatApPl
namespace Go.Proofs.YtnphjhbfpoekpaaGreat
set_option linter.unusedSimpArgs false
set_option linter.unusedVariables false
set_option linter.unnecessarySimpa false
open Go.RowKit
theorem take1_pw (l : List Int) : (l.take 1).Pairwise (· < ·) := by cases l <;> simp
theorem st_no_room {s : St} (h : roomO s = none) : stateB s = false := by unfold stateB; rw [h]; rfl
theorem st_no_dep {s : St} (h : inB s.dep 0 60 = false) : stateB s = false := by unfold stateB; rw [h]; simp
theorem st_no_jobs {s : St} (h : queueB s.jobs = false) : stateB s = false := by unfold stateB; rw [h]; simp
theorem st_no_ends {s : St} (h : ¬ s.ends.length ≤ 300) : stateB s = false := by unfold stateB; rw [decide_eq_false h]; simp
theorem st_no_run {s : St} {q : Nat} {x : Rn} (hx : s.runs[q]? = some x) (h : okRun s x = false) : stateB s = false := by
 have h1 : s.runs.all (okRun s) = false := by rw [List.all_eq_false]; exact ⟨x, List.mem_of_getElem? hx, by simp [h]⟩
 unfold stateB; rw [h1]; simp
theorem st_no_end {s : St} {q : Nat} {x : En} (hx : s.ends[q]? = some x) (h : okEnd s.now x = false) : stateB s = false := by
 have h1 : s.ends.all (okEnd s.now) = false := by rw [List.all_eq_false]; exact ⟨x, List.mem_of_getElem? hx, by simp [h]⟩
 unfold stateB; rw [h1]; simp
theorem st_yes {s : St} (h1 : (roomO s).isSome = true) (h2 : inB s.dep 0 60 = true) (h3 : queueB s.jobs = true) (h4 : s.ends.length ≤ 300) (h5 : ∀ i x, i < s.runs.length → s.runs[i]? = some x → okRun s x = true) (h6 : ∀ i x, i < s.ends.length → s.ends[i]? = some x → okEnd s.now x = true) : stateB s = true := by
 have e5 : s.runs.all (okRun s) = true := by
  rw [List.all_eq_true]; intro x hx
  obtain ⟨i, hi, rfl⟩ := List.getElem_of_mem hx
  exact h5 i _ hi (zgh hi)
 have e6 : s.ends.all (okEnd s.now) = true := by
  rw [List.all_eq_true]; intro x hx
  obtain ⟨i, hi, rfl⟩ := List.getElem_of_mem hx
  exact h6 i _ hi (zgh hi)
 unfold stateB; rw [h1, h2, h3, e5, e6, decide_eq_true h4]; rfl
theorem run_no_up {s : St} {x : Rn} {i : Nat} {z : Nat} (hz : x.nd[i]? = some (z : Int)) (h : s.up.getD z false = false) : okRun s x = false := by
 have h1 : x.nd.all (fun n => s.up.getD n.toNat false) = false := by rw [List.all_eq_false]; exact ⟨(z : Int), List.mem_of_getElem? hz, by simpa using h⟩
 unfold okRun; rw [h1]; rfl
theorem run_no_asc {s : St} {x : Rn} (h : ascB x.nd = false) : okRun s x = false := by unfold okRun; rw [h]; simp
theorem run_no_lev {s : St} {x : Rn} {b : Nat} (hb : lowestV s.par s.nodes x.nd = b) (h : ¬ lev s.par b ≤ x.j.lv) : okRun s x = false := by
 unfold okRun; rw [hb, Int.toNat_natCast, decide_eq_false h]; simp
theorem run_ok {s : St} {x : Rn} {b : Nat} (hu : ∀ (i : Nat) (z : Nat), i < x.nd.length → x.nd[i]? = some (z : Int) → s.up.getD z false = true) (hn : ∀ z ∈ x.nd, 0 ≤ z) (ha : ascB x.nd = true) (hb : lowestV s.par s.nodes x.nd = b) (h : lev s.par b ≤ x.j.lv) : okRun s x = true := by
 have h1 : x.nd.all (fun n => s.up.getD n.toNat false) = true := by
  rw [List.all_eq_true]; intro z hz
  have h0 := hn z hz
  obtain ⟨i, hi, rfl⟩ := List.getElem_of_mem hz
  exact hu i _ hi (by rw [zgh hi]; congr 1; omega)
 unfold okRun; rw [h1, ha, hb, Int.toNat_natCast, decide_eq_true h]; rfl
theorem pre_of {s : St} {R : Rm} (h : roomO s = some R) : preB s = true ∧ runsV s.now s.empty s.runs = some R := by
 unfold roomO at h
 split at h
 ·rename_i hp; exact ⟨hp, h⟩
 ·cases h
theorem st_runs {s : St} {R : Rm} (h : roomO s = some R) : topoOkB s.par s.nodes = true ∧ s.up.length = s.nodes.length ∧ timeB s.now = true ∧ ∀ x ∈ s.runs, runB s.now x = true ∧ areB s.par s.nodes x.nd = true ∧ 1 ≤ x.nd.length ∧ x.nd.length ≤ 24 := by
 obtain ⟨h1, h2⟩ := pre_of h
 simp only [preB, Bool.and_eq_true, decide_eq_true_eq] at h1
 exact ⟨h1.1.1.1, h1.1.1.2, h1.2, (runsV_all h2).1⟩
set_option maxHeartbeats 16000000 in
set_option maxRecDepth 20000 in
theorem StateOk_any (a : SA) (s : St) (ss : List Value) (w : World) (h : StRd w a s ss) :
  Calls Tryz.prog 28 #[a.v s] w fun e w' => e = .returned (.bool (stateB s)) ∧ Below w.heap.size w w' := by
 obtain ⟨A, B, U, K, R, E, n, m, nu, nk, nr, ne, c, d, cu, ck, cr, ce⟩ := a
 dsimp only [SA.v]
 have H := Lib.hid h
 have hkr : nk + nr ≤ 1048576 := h.kr
 have hnr : nr ≤ 1048576 := h.nr
 have hne : ne ≤ 1048576 := h.ne
 have hnu : nu ≤ 1048576 := h.nu
 have hnn : n ≤ 1048576 := h.n
 have hmm : m ≤ 1048576 := h.m
 clear h
 have HMM : Hid (s.nodes.length = m) := Lib.hid (by have := H.out.nodes.1; rw [flat_len] at this; simp only at this; omega)
 have HNN : Hid (s.par.length = n) := Lib.hid (by have := H.out.par.ilen; simpa using this)
 have HUL : Hid (s.up.length = nu) := Lib.hid (by have := H.out.up.1; simpa [bools] using this)
 have HEL : Hid (s.ends.length = ne) := Lib.hid (by have := H.out.ends.elen; simpa using this)
 have HRL : Hid (s.runs.length = nr) := Lib.hid H.out.runs.len
 have XP0 : Hid (BX w (w.alloc (.cells #[.slice A n c, .slice B m d, .slice U nu cu, .int .i64 s.lic.A, .int .i64 s.lic.B, .int .i64 s.lic.C, .int .i64 s.dep, .int .i64 s.now, .slice K nk ck, .slice R nr cr, .slice E ne ce] 77)) (w.heap.size) 77 [.slice A n c, .slice B m d, .slice U nu cu, .int .i64 s.lic.A, .int .i64 s.lic.B, .int .i64 s.lic.C, .int .i64 s.dep, .int .i64 s.now, .slice K nk ck, .slice R nr cr, .slice E ne ce]) := Lib.hid ⟨zAk _ rfl, zAa _ _, Nat.le_refl _⟩
 go_enter Tryz.func28, Tryz.ntmps28
 go_upto_region 1 with fail
 generalize w.alloc (.cells #[.slice A n c, .slice B m d, .slice U nu cu, .int .i64 s.lic.A, .int .i64 s.lic.B, .int .i64 s.lic.C, .int .i64 s.dep, .int .i64 s.now, .slice K nk ck, .slice R nr cr, .slice E ne ce] 77) = w0 at *
 have k0 := zAb XP0.out.bx 0 rfl
 have k1 := zAb XP0.out.bx 1 rfl
 have k2 := zAb XP0.out.bx 2 rfl
 have k3 := zAb XP0.out.bx 3 rfl
 have k4 := zAb XP0.out.bx 4 rfl
 have k5 := zAb XP0.out.bx 5 rfl
 have k6 := zAb XP0.out.bx 6 rfl
 have k7 := zAb XP0.out.bx 7 rfl
 have k8 := zAb XP0.out.bx 8 rfl
 have k9 := zAb XP0.out.bx 9 rfl
 have k10 := zAb XP0.out.bx 10 rfl
 have kf := zAh XP0.out.bx
 have kl := zAf XP0.out.bx
 simp only [zgc, zga, zgb] at k0 k1 k2 k3 k4 k5 k6 k7 k8 k9 k10
 go_wp2_with fail
 refine (RoomOf_any ⟨A, B, U, K, R, E, n, m, nu, nk, nr, ne, c, d, cu, ck, cr, ce⟩ s ss _ (H.out.bel XP0.out.bel)).mono ?_
 rintro e w5 ⟨a5, rfl, -, hb5⟩
 obtain ⟨A5, B5, U5, R5, L5, n5, m5, nu5, np5, nl5, c5, d5, cu5, cp5, cl5⟩ := a5
 dsimp only [RA.v]
 obtain ⟨RO, hRO⟩ : ∃ y, roomO s = y := ⟨_, rfl⟩
 have HRO := Lib.hid hRO
 rw [hRO]
 have XP6 := Lib.hid ((XP0.out.step hb5).step (zAa w5 (.cells #[.slice A5 n5 c5, .slice B5 m5 d5, .slice U5 nu5 cu5, .slice R5 np5 cp5, .slice L5 nl5 cl5] 33)))
 clear hb5 hRO k0 k1 k2 k3 k4 k5 k6 k7 k8 k9 k10 kf kl XP0
 go_upto_region 2 with fail
 generalize w5.alloc (.cells #[.slice A5 n5 c5, .slice B5 m5 d5, .slice U5 nu5 cu5, .slice R5 np5 cp5, .slice L5 nl5 cl5] 33) = w6 at *
 cases RO with
 | none =>
  simp only [Option.isSome_none]
  have k0 := zAb XP6.out.bx 0 rfl
  have k1 := zAb XP6.out.bx 1 rfl
  have k2 := zAb XP6.out.bx 2 rfl
  have k3 := zAb XP6.out.bx 3 rfl
  have k4 := zAb XP6.out.bx 4 rfl
  have k5 := zAb XP6.out.bx 5 rfl
  have k6 := zAb XP6.out.bx 6 rfl
  have k7 := zAb XP6.out.bx 7 rfl
  have k8 := zAb XP6.out.bx 8 rfl
  have k9 := zAb XP6.out.bx 9 rfl
  have k10 := zAb XP6.out.bx 10 rfl
  have kf := zAh XP6.out.bx
  have kl := zAf XP6.out.bx
  simp only [zgc, zga, zgb] at k0 k1 k2 k3 k4 k5 k6 k7 k8 k9 k10
  go_wp2
  go_ret
  exact ⟨zAj (show false = stateB s from (st_no_room HRO.out).symm), XP6.out.bel⟩
 | some RV =>
 simp only [Option.isSome_some]
 obtain ⟨htop, hupl, htim, hrun⟩ := st_runs HRO.out
 have HRUN := Lib.hid hrun
 have HTOP := Lib.hid htop
 have hnow : 0 ≤ s.now ∧ s.now ≤ 1000000000 := by simpa [timeB, inB] using htim
 have HUM : Hid (nu = m) := Lib.hid (by rw [← HUL.out, ← HMM.out]; exact hupl)
 obtain ⟨t1, t2, t3, t4, t5, t6, t7⟩ := topo_parts htop
 have HP5 := Lib.hid t5
 have HP6 := Lib.hid t6
 have h1n : 1 ≤ n := by rw [← HNN.out]; exact t1
 clear hrun htop htim hupl t1 t2 t3 t4 t5 t6 t7
 have k0 := zAb XP6.out.bx 0 rfl
 have k1 := zAb XP6.out.bx 1 rfl
 have k2 := zAb XP6.out.bx 2 rfl
 have k3 := zAb XP6.out.bx 3 rfl
 have k4 := zAb XP6.out.bx 4 rfl
 have k5 := zAb XP6.out.bx 5 rfl
 have k6 := zAb XP6.out.bx 6 rfl
 have k7 := zAb XP6.out.bx 7 rfl
 have k8 := zAb XP6.out.bx 8 rfl
 have k9 := zAb XP6.out.bx 9 rfl
 have k10 := zAb XP6.out.bx 10 rfl
 have kf := zAh XP6.out.bx
 have kl := zAf XP6.out.bx
 simp only [zgc, zga, zgb] at k0 k1 k2 k3 k4 k5 k6 k7 k8 k9 k10
 go_wp2_with fail
 refine (within_any s.dep 0 60 _).mono ?_
 rintro e w4 ⟨rfl, rfl⟩
 cases hdp : inB s.dep 0 60
 ·skip
  go_wp2
  go_ret
  exact ⟨zAj (show false = stateB s from (st_no_dep hdp).symm), XP6.out.bel⟩
 have HDP := Lib.hid hdp
 clear hdp
 go_wp2_with fail
 refine (all_any ⟨A, B, U, K, R, E, n, m, nu, nk, nr, ne, c, d, cu, ck, cr, ce⟩ s ss _ (H.out.bel XP6.out.bel)).mono ?_
 rintro e w7 ⟨X7, c7, rfl, own7, hb7⟩
 dsimp only at own7
 have XP7 := Lib.hid (XP6.out.step hb7)
 have O7 := Lib.hid own7
 clear own7 hb7 k0 k1 k2 k3 k4 k5 k6 k7 k8 k9 k10 kf kl XP6
 have k10 := zAb XP7.out.bx 10 rfl
 have kf := zAh XP7.out.bx
 have kl := zAf XP7.out.bx
 simp only [zgc, zga, zgb] at k10
 go_wp2_with fail
 refine (queueOk_any X7 (nk + nr) c7 s.jobs _ hkr (zAv O7.out) (own_blk O7.out) (own_cap9 O7.out).1 (own_cap9 O7.out).2).mono ?_
 rintro e w8 ⟨rfl, hb8⟩
 have XP8 := Lib.hid (XP7.out.step hb8)
 clear hb8 k10 kf kl XP7 O7
 cases hqo : queueB s.jobs
 ·skip
  have k10 := zAb XP8.out.bx 10 rfl
  have kf := zAh XP8.out.bx
  have kl := zAf XP8.out.bx
  simp only [zgc, zga, zgb] at k10
  go_wp2
  go_ret
  exact ⟨zAj (show false = stateB s from (st_no_jobs hqo).symm), XP8.out.bel⟩
 have HQO := Lib.hid hqo
 clear hqo
 have k9 := zAb XP8.out.bx 9 rfl
 have k10 := zAb XP8.out.bx 10 rfl
 have kf := zAh XP8.out.bx
 have kl := zAf XP8.out.bx
 simp only [zgc, zga, zgb] at k9 k10
 by_cases h300 : (300 : Int) < ne
 ·skip
  go_wp2
  go_ret
  exact ⟨zAj (show false = stateB s from (st_no_ends (by rw [HEL.out]; omega)).symm), XP8.out.bel⟩
 go_wp2
 clear k9 k10 kf kl
 go_loopw [39] (fun i wr => ∃ q : Nat, q ≤ nr ∧ i = .int .i64 q ∧ BX w wr (w.heap.size) 77 [.slice A n c, .slice B m d, .slice U nu cu, .int .i64 s.lic.A, .int .i64 s.lic.B, .int .i64 s.lic.C, .int .i64 s.dep, .int .i64 s.now, .slice K nk ck, .slice R nr cr, .slice E ne ce] ∧ Hid (∀ (i : Nat) x, i < q → s.runs[i]? = some x → okRun s x = true)) (fun i _ => nr - (intOf i).toNat)
 case atStart => exact ⟨0, Nat.zero_le _, rfl, XP8.out, Lib.hid (fun i x h => absurd h (by omega))⟩
 case round =>
 clear XP8
 obtain ⟨q, hq, rfl, P', hall⟩ := hrel
 obtain ⟨wo, rfl⟩ : ∃ x, x = wr := ⟨wr, rfl⟩
 have XP4 := Lib.hid P'
 clear P'
 by_cases hlt : q < nr
 ·have hlt' : (q : Int) < nr := by omega
  obtain ⟨g, x, X, dX, rfl, hp, hx, l1, l2, l3, rX, lX, hg, d0, d1, d2, d3, d4, d5, d6, d7, d8, d9, d10, d11, d12⟩ := (H.out.bel XP4.out.bel).runs.row hlt
  obtain ⟨hrb, hare, hl1, hl24⟩ := HRUN.out x (List.mem_of_getElem? hp)
  have HPQ := Lib.hid hp
  have RX := Lib.hid rX
  have LX := Lib.hid lX
  have HARE := Lib.hid hare
  have XP5 := Lib.hid (XP4.out.step (zAa wo (.cells #[.int .i64 x.j.id, .int .i64 x.j.pr, .int .i64 x.j.nn, .int .i64 x.j.na, .int .i64 x.j.nb, .int .i64 x.j.nc, .int .i64 x.j.la, .int .i64 x.j.lb, .int .i64 x.j.lc, .int .i64 x.j.wl, .int .i64 x.j.lv, .int .i64 x.at_, .slice X x.nd.length dX] 136)))
  have ND5 : Hid (BX w (wo.alloc (.cells #[.int .i64 x.j.id, .int .i64 x.j.pr, .int .i64 x.j.nn, .int .i64 x.j.na, .int .i64 x.j.nb, .int .i64 x.j.nc, .int .i64 x.j.la, .int .i64 x.j.lb, .int .i64 x.j.lc, .int .i64 x.j.wl, .int .i64 x.j.lv, .int .i64 x.at_, .slice X x.nd.length dX] 136)) wo.heap.size 136 [.int .i64 x.j.id, .int .i64 x.j.pr, .int .i64 x.j.nn, .int .i64 x.j.na, .int .i64 x.j.nb, .int .i64 x.j.nc, .int .i64 x.j.la, .int .i64 x.j.lb, .int .i64 x.j.lc, .int .i64 x.j.wl, .int .i64 x.j.lv, .int .i64 x.at_, .slice X x.nd.length dX]) := Lib.hid ⟨zAk _ rfl, XP5.out.bel, XP4.out.bel.size⟩
  have RX5 := Lib.hid (RX.out.below LX.out (zAa wo (.cells #[.int .i64 x.j.id, .int .i64 x.j.pr, .int .i64 x.j.nn, .int .i64 x.j.na, .int .i64 x.j.nb, .int .i64 x.j.nc, .int .i64 x.j.la, .int .i64 x.j.lb, .int .i64 x.j.lc, .int .i64 x.j.wl, .int .i64 x.j.lv, .int .i64 x.at_, .slice X x.nd.length dX] 136)))
  have LX5 := Lib.hid (zAi LX.out (zAa wo (.cells #[.int .i64 x.j.id, .int .i64 x.j.pr, .int .i64 x.j.nn, .int .i64 x.j.na, .int .i64 x.j.nb, .int .i64 x.j.nc, .int .i64 x.j.la, .int .i64 x.j.lb, .int .i64 x.j.lc, .int .i64 x.j.wl, .int .i64 x.j.lv, .int .i64 x.at_, .slice X x.nd.length dX] 136)))
  clear hp hx rX lX hrb hare RX LX
  go_upto_region 7 with fail
  clear d0 d1 d2 d3 d4 d5 d6 d7 d8 d9 d10 d11 d12 XP4
  generalize wo.alloc (.cells #[.int .i64 x.j.id, .int .i64 x.j.pr, .int .i64 x.j.nn, .int .i64 x.j.na, .int .i64 x.j.nb, .int .i64 x.j.nc, .int .i64 x.j.la, .int .i64 x.j.lb, .int .i64 x.j.lc, .int .i64 x.j.wl, .int .i64 x.j.lv, .int .i64 x.at_, .slice X x.nd.length dX] 136) = w5 at *
  obtain ⟨bn, hbn⟩ : ∃ y, y = wo.heap.size := ⟨_, rfl⟩
  rw [← hbn] at ND5 ⊢
  clear hbn hg
  have v12 := zAb ND5.out.bx 12 rfl
  have vf := zAh ND5.out.bx
  have vl := zAf ND5.out.bx
  simp only [zgc, zga, zgb] at v12
  go_wp2
  clear v12 vf vl
  go_loopw [46] (fun v wi => ∃ i : Nat, i ≤ x.nd.length ∧ v = .int .i64 i ∧ Below w5.heap.size w5 wi ∧ Hid (∀ (k : Nat) (z : Nat), k < i → x.nd[k]? = some (z : Int) → s.up.getD z false = true)) (fun v _ => x.nd.length - (intOf v).toNat)
  case atStart => exact ⟨0, Nat.zero_le _, rfl, Below.refl _ _, Lib.hid (fun k z h => absurd h (by omega))⟩
  case round =>
  obtain ⟨i, hi, rfl, hbi, hup⟩ := hrel
  obtain ⟨wi9, rfl⟩ : ∃ x, x = wr := ⟨wr, rfl⟩
  have XP6 := Lib.hid (XP5.out.step hbi)
  have ND6 := Lib.hid (ND5.out.step hbi)
  have RX6 := Lib.hid (RX5.out.below LX5.out hbi)
  have LX6 := Lib.hid (zAi LX5.out hbi)
  have HBI := Lib.hid hbi
  clear hbi
  by_cases hli : i < x.nd.length
  ·have hli' : (i : Int) < x.nd.length := by omega
   have hi0 : (0 : Int) ≤ (i : Int) := by omega
   obtain ⟨gX, zz, rfl, hz, cz⟩ := Rd.int RX6.out hli
   obtain ⟨z0, z1⟩ := are_in HARE.out hz
   obtain ⟨z, rfl⟩ : ∃ z : Nat, zz = (z : Int) := ⟨zz.toNat, by omega⟩
   have hzu : z < nu := by have h9 := HUM.out; rw [HMM.out] at z1; omega
   have hzu' : (z : Int) < nu := by omega
   have HZ := Lib.hid hz
   obtain ⟨gU, rfl, hcU⟩ := (H.out.bel XP6.out.bel).up.2 (show 0 < nu by omega)
   obtain ⟨ub, hub⟩ : ∃ ub, s.up[z]? = some ub := ⟨_, zgh (by rw [HUL.out]; exact hzu)⟩
   have cu9 : wi9.cell? ⟨gU, z, none⟩ = some (.bool ub) := hcU z _ (by simp [bools, hub])
   have HUB : Hid (s.up.getD z false = ub) := Lib.hid (by rw [List.getD_eq_getElem?_getD, hub]; rfl)
   clear hz hcU hub
   have k2 := zAb XP6.out.bx 2 rfl
   have kf := zAh XP6.out.bx
   have kl := zAf XP6.out.bx
   simp only [zgc, zga, zgb] at k2
   cases ub
   ·skip
    go_wp2
    go_ret
    exact ⟨zAj (show false = stateB s from (st_no_run HPQ.out (run_no_up HZ.out HUB.out)).symm), XP6.out.bel⟩
   ·have HUP : Hid (∀ (k : Nat) (z : Nat), k < i + 1 → x.nd[k]? = some (z : Int) → s.up.getD z false = true) := Lib.hid (fun k z' hk hz' => by
     by_cases hki : k < i
     ·exact hup.out k z' hki hz'
     ·obtain rfl : k = i := by omega
      rw [HZ.out] at hz'
      have h9 := Option.some.inj hz'
      have h8 : z = z' := by omega
      rw [← h8]; exact HUB.out)
    go_wp2
    exact ⟨⟨i + 1, by omega, by go_num, HBI.out, HUP⟩, by simp [intOf]; omega⟩
  ·obtain rfl : x.nd.length = i := by omega
   have hli' : ¬ ((x.nd.length : Nat) : Int) < x.nd.length := by omega
   obtain ⟨b, hb, hbn9, -, -⟩ := lowest_spec HARE.out hl1
   have HB := Lib.hid hb
   have hbn : b < n := by rw [← HNN.out]; exact hbn9
   clear hbn9 hb
   have k0 := zAb XP6.out.bx 0 rfl
   have k1 := zAb XP6.out.bx 1 rfl
   have kf := zAh XP6.out.bx
   have kl := zAf XP6.out.bx
   simp only [zgc, zga, zgb] at k0 k1
   have v10 := zAb ND6.out.bx 10 rfl
   have v12 := zAb ND6.out.bx 12 rfl
   have vf := zAh ND6.out.bx
   have vl := zAf ND6.out.bx
   simp only [zgc, zga, zgb] at v10 v12
   cases hasc : ascB x.nd
   ·have HASC := Lib.hid hasc
    clear hasc
    go_wp2
    refine wp_region_below (by kernel_rfl) (by kernel_rfl) (fun W hW => ?_)
    have Y0 : W.cell? ⟨w.heap.size, 0, none⟩ = some (.slice A n c) := by rw [hW]; exact k0
    have Y1 : W.cell? ⟨w.heap.size, 1, none⟩ = some (.slice B m d) := by rw [hW]; exact k1
    have Y2 : W.cell? ⟨bn, 10, none⟩ = some (.int .i64 x.j.lv) := by rw [hW]; exact v10
    have Y3 : W.cell? ⟨bn, 12, none⟩ = some (.slice X x.nd.length dX) := by rw [hW]; exact v12
    have WS0 : w.heap.size < W.heap.size := by rw [hW]; exact kl
    have WS1 : bn < W.heap.size := by rw [hW]; exact vl
    have BW := Lib.hid (show Below wi9.heap.size wi9 W by rw [hW]; exact (Below.refl _ _).drew)
    have RXW := Lib.hid (RX6.out.below LX6.out BW.out)
    have LXW := Lib.hid (zAi LX6.out BW.out)
    ((try dsimp only); repeat (first | (refine Det0.skip ?_ ?_; (focus (rfl; done)); (try simp only [putA, zgd, zgf, zge])) | (refine Det0.pure ?_ ?_ ?_ ?_; rotate_left; (focus (rfl; done)); (focus ((intro w9 hJ); (have hk0 := fun o => hJ.cell (p := ⟨w.heap.size, o, none⟩) WS0; have hk1 := fun o => hJ.cell (p := ⟨bn, o, none⟩) WS1); go_simp; (first | with_reducible rfl | exact eq_if3 | exact neq_if3 | skip); done)); (try simp only [putA, zgd, zgf, zge])) | (refine Det0.step ?_ ?_ ?_ ?_; rotate_left; (focus (rfl; done)); (focus ((intro w9 K hJ hK); (have hk0 := fun o => hJ.cell (p := ⟨w.heap.size, o, none⟩) WS0; have hk1 := fun o => hJ.cell (p := ⟨bn, o, none⟩) WS1); go_simp; ((go_at_call 90; refine (areAsc_any X x.nd.length dX x.nd _ (by omega) (RXW.out.below LXW.out hJ) (zAi LXW.out hJ)).mono ?_; rintro e w1 ⟨rfl, hb1⟩; rw [HASC.out]; exact hK.out _ (zAc hJ hb1))); done)); (try simp only [putA, zgd, zgf, zge]))))
    refine Det0.nil (fun w9 hJ => ?_)
    have BZ := Lib.hid (zAc XP6.out.bel (zAc BW.out hJ))
    go_wp2
    go_ret
    exact ⟨zAj (show false = stateB s from (st_no_run HPQ.out (run_no_asc HASC.out)).symm), BZ.out⟩
   ·have HASC := Lib.hid hasc
    clear hasc
    have HQ6 := Lib.hid (H.out.bel XP6.out.bel)
    go_wp2_with fail
    go_region_held3 (fun w' => w'.cell? ⟨w.heap.size, 0, none⟩ = some (.slice A n c) ∧ w'.cell? ⟨w.heap.size, 1, none⟩ = some (.slice B m d) ∧ w'.cell? ⟨bn, 10, none⟩ = some (.int .i64 x.j.lv) ∧ w'.cell? ⟨bn, 12, none⟩ = some (.slice X x.nd.length dX)) (simp [go_sem, *, World.cell?_alloc_some, World.cell?_setCell_far, Nat.lt_add_right, Nat.ne_of_gt]) (first | (go_at_call 90; refine (areAsc_any X x.nd.length dX x.nd _ (by omega) (RX6.out.below LX6.out ((Below.refl wi9.heap.size wi9).drew)) (zAi LX6.out ((Below.refl wi9.heap.size wi9).drew))).mono ?_; rintro e w9 ⟨rfl, hb9⟩; rw [HASC.out]; have B9 := Lib.hid (show Below wi9.heap.size wi9 w9 from zAc ((Below.refl wi9.heap.size wi9).drew) hb9); have hs9 := hb9.size; (try simp at hs9); have hk9 := fun o => hb9.cell (p := ⟨w.heap.size, o, none⟩) zOm; have hf9 := fun o => hb9.frozen (p := ⟨w.heap.size, o, none⟩) zOm; have hj9 := fun o => hb9.cell (p := ⟨bn, o, none⟩) zOm; have hi9 := fun o => hb9.frozen (p := ⟨bn, o, none⟩) zOm; clear hb9) | (go_at_call 92; refine (lowest_any A B n c m d s.par s.nodes X x.nd.length dX x.nd _ hnn hmm (HQ6.out.bel B9.out).par (HQ6.out.bel B9.out).nodes (HQ6.out.bel B9.out).lA (HQ6.out.bel B9.out).lB (by omega) (RX6.out.below LX6.out B9.out) (zAi LX6.out B9.out)).mono ?_; rintro e wa ⟨rfl, hba⟩; rw [HB.out]; have Ba := Lib.hid (show Below wi9.heap.size wi9 wa from zAc B9.out hba); have hsa := hba.size; (try simp at hsa); have hka := fun o => hba.cell (p := ⟨w.heap.size, o, none⟩) zOm; have hfa := fun o => hba.frozen (p := ⟨w.heap.size, o, none⟩) zOm; have hja := fun o => hba.cell (p := ⟨bn, o, none⟩) zOm; have hia := fun o => hba.frozen (p := ⟨bn, o, none⟩) zOm; clear hba) | (go_at_call 91; refine (level_any A B n c m d s.par b _ hnn h1n (HQ6.out.bel Ba.out).par (HQ6.out.bel Ba.out).lA HP5.out HP6.out hbn).mono ?_; rintro e wb ⟨rfl, hbb⟩; have Bb := Lib.hid (show Below wi9.heap.size wi9 wb from zAc Ba.out hbb); have hsb := hbb.size; (try simp at hsb); have hkb := fun o => hbb.cell (p := ⟨w.heap.size, o, none⟩) zOm; have hfb := fun o => hbb.frozen (p := ⟨w.heap.size, o, none⟩) zOm; have hjb := fun o => hbb.cell (p := ⟨bn, o, none⟩) zOm; have hib := fun o => hbb.frozen (p := ⟨bn, o, none⟩) zOm; clear hbb))
    by_cases hlv : x.j.lv < lev s.par b
    ·skip
     go_wp2
     go_ret
     exact ⟨zAj (show false = stateB s from (st_no_run HPQ.out (run_no_lev HB.out (by omega))).symm), zAc XP6.out.bel Bb.out⟩
    ·have HALL : Hid (∀ (i : Nat) x, i < q + 1 → s.runs[i]? = some x → okRun s x = true) := Lib.hid (fun k x' hk hx' => by
      by_cases hkq : k < q
      ·exact hall.out k x' hkq hx'
      ·obtain rfl : k = q := by omega
       rw [HPQ.out] at hx'
       obtain rfl := Option.some.inj hx'
       exact run_ok (fun i z hi hz => hup.out i z hi hz) (fun z hz => by obtain ⟨i, hi, rfl⟩ := List.getElem_of_mem hz; exact (are_in HARE.out (zgh hi)).1) HASC.out HB.out (by omega))
     have XPZ := Lib.hid (XP6.out.step Bb.out)
     go_wp2
     exact ⟨⟨q + 1, by omega, by go_num, XPZ.out, HALL⟩, by simp [intOf]; omega⟩
 ·obtain rfl : nr = q := by omega
  have hlt' : ¬ ((nr : Nat) : Int) < nr := by omega
  have HALL := Lib.hid hall.out
  have k10 := zAb XP4.out.bx 10 rfl
  have kf := zAh XP4.out.bx
  have kl := zAf XP4.out.bx
  simp only [zgc, zga, zgb] at k10
  go_wp2
  clear k10 kf kl hall
  go_loopw [79] (fun i wr => ∃ q : Nat, q ≤ ne ∧ i = .int .i64 q ∧ BX w wr (w.heap.size) 77 [.slice A n c, .slice B m d, .slice U nu cu, .int .i64 s.lic.A, .int .i64 s.lic.B, .int .i64 s.lic.C, .int .i64 s.dep, .int .i64 s.now, .slice K nk ck, .slice R nr cr, .slice E ne ce] ∧ Hid (∀ (i : Nat) x, i < q → s.ends[i]? = some x → okEnd s.now x = true)) (fun i _ => ne - (intOf i).toNat)
  case atStart => exact ⟨0, Nat.zero_le _, rfl, XP4.out, Lib.hid (fun i x h => absurd h (by omega))⟩
  case round =>
  clear XP4
  obtain ⟨q, hq, rfl, P', hend⟩ := hrel
  obtain ⟨wi, rfl⟩ : ∃ x, x = wr := ⟨wr, rfl⟩
  have XP4 := Lib.hid P'
  clear P'
  by_cases hlt : q < ne
  ·have hlt' : (q : Int) < ne := by omega
   obtain ⟨gE, y, rfl, hy, e0, e1, e2⟩ := (H.out.bel XP4.out.bel).ends.en hlt
   have HY := Lib.hid hy
   have XP5 := Lib.hid (XP4.out.step (zAa wi (.cells #[.int .i64 y.id, .int .i64 y.at_, .int .i64 y.why] 139)))
   have ED5 : Hid (BX w (wi.alloc (.cells #[.int .i64 y.id, .int .i64 y.at_, .int .i64 y.why] 139)) wi.heap.size 139 [.int .i64 y.id, .int .i64 y.at_, .int .i64 y.why]) := Lib.hid ⟨zAk _ rfl, XP5.out.bel, XP4.out.bel.size⟩
   clear hy
   go_upto_region 19 with fail
   clear e0 e1 e2 XP4
   generalize wi.alloc (.cells #[.int .i64 y.id, .int .i64 y.at_, .int .i64 y.why] 139) = w5 at *
   have v0 := zAb ED5.out.bx 0 rfl
   have v1 := zAb ED5.out.bx 1 rfl
   have v2 := zAb ED5.out.bx 2 rfl
   have vf := zAh ED5.out.bx
   have vl := zAf ED5.out.bx
   simp only [zgc, zga, zgb] at v0 v1 v2
   have k7 := zAb XP5.out.bx 7 rfl
   have kf := zAh XP5.out.bx
   have kl := zAf XP5.out.bx
   simp only [zgc, zga, zgb] at k7
   go_wp2_with fail
   refine (within_any y.id 1 999 _).mono ?_
   rintro e w4 ⟨rfl, rfl⟩
   cases g1 : inB y.id 1 999
   ·skip
    go_wp2
    go_ret
    exact ⟨zAj (show false = stateB s from (st_no_end HY.out (by unfold okEnd; rw [g1]; simp)).symm), XP5.out.bel⟩
   go_wp2_with fail
   refine (within_any y.at_ 0 s.now _).mono ?_
   rintro e w4 ⟨rfl, rfl⟩
   cases g2 : inB y.at_ 0 s.now
   ·skip
    go_wp2
    go_ret
    exact ⟨zAj (show false = stateB s from (st_no_end HY.out (by unfold okEnd; rw [g2]; simp)).symm), XP5.out.bel⟩
   go_wp2_with fail
   refine (within_any y.why 1 4 _).mono ?_
   rintro e w4 ⟨rfl, rfl⟩
   cases g3 : inB y.why 1 4
   ·skip
    go_wp2
    go_ret
    exact ⟨zAj (show false = stateB s from (st_no_end HY.out (by unfold okEnd; rw [g3]; simp)).symm), XP5.out.bel⟩
   have HOE : Hid (okEnd s.now y = true) := Lib.hid (by unfold okEnd; rw [g1, g2, g3]; rfl)
   clear g1 g2 g3
   have HEND : Hid (∀ (i : Nat) x, i < q + 1 → s.ends[i]? = some x → okEnd s.now x = true) := Lib.hid (fun k x' hk hx' => by
    by_cases hkq : k < q
    ·exact hend.out k x' hkq hx'
    ·obtain rfl : k = q := by omega
     rw [HY.out] at hx'
     obtain rfl := Option.some.inj hx'
     exact HOE.out)
   go_wp2
   exact ⟨⟨q + 1, by omega, by go_num, XP5.out, HEND⟩, by simp [intOf]; omega⟩
  ·obtain rfl : ne = q := by omega
   have hlt' : ¬ ((ne : Nat) : Int) < ne := by omega
   have HF : Hid (stateB s = true) := Lib.hid (st_yes (by rw [HRO.out]; rfl) HDP.out HQO.out (by rw [HEL.out]; omega) (fun i x hi hx => HALL.out i x (by rw [HRL.out] at hi; exact hi) hx) (fun i x hi hx => hend.out i x (by rw [HEL.out] at hi; exact hi) hx))
   go_wp2
   go_ret
   exact ⟨zAj (HF.out.symm), XP4.out.bel⟩
end Go.Proofs.YtnphjhbfpoekpaaGreat
