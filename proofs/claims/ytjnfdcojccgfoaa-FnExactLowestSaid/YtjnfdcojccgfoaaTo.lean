/-
  Contracts of Lowest.
-/
import Derived.Test.YtjnfdcojccgfoaaTn
import Derived.Test.YtjnfdcojccgfoaaDt
namespace Go.Proofs.Ytjnfdcojccgfoaa
set_option linter.unusedSimpArgs false
set_option linter.unusedVariables false
set_option linter.unnecessarySimpa false
open Go.RowKit
def lowJ (ps : List Int) (ns : List Q) (nd : List Int) (s i : Nat) : Bool := (nd.take i).all fun x => decide (s ∈ up ps (lfN ns x))
theorem lowJ_succ {ps : List Int} {ns : List Q} {nd : List Int} {s i : Nat} {x : Int} (h : nd[i]? = some x) : lowJ ps ns nd s (i + 1) = (lowJ ps ns nd s i && decide (s ∈ up ps (lfN ns x))) := by
  unfold lowJ; rw [List.take_add_one, h]; simp
theorem lowJ_all {ps : List Int} {ns : List Q} {nd : List Int} {s k : Nat} (h : nd.length = k) : lowJ ps ns nd s k = lowB ps (nd.map (lfN ns)) s := by
  unfold lowJ lowB
  rw [List.take_of_length_le (by omega), List.all_map]
  congr 1
  funext x
  simp
theorem lowN_lt {ps : List Int} {ls : List Nat} {k : Nat} (h : ¬ lowN ps ls k < 0) : ∃ b : Nat, lowN ps ls k = b ∧ b < k := by
  rcases lowN_spec ps ls k with ⟨h1, _⟩ | ⟨b, h1, h2, _⟩
  · omega
  · exact ⟨b, h1, h2⟩
theorem lowN_step {ps : List Int} {ls : List Nat} {s b : Nat} (hb : lowB ps ls s = true) (hbe : lowN ps ls s = (b : Int)) : lowN ps ls (s + 1) = if lev ps s ≤ lev ps b then (s : Int) else (b : Int) := by
  rw [lowN_succ, hbe]
  unfold lowF
  by_cases hle : lev ps s ≤ lev ps b
  · rw [if_pos ⟨hb, Or.inr (by simpa using hle)⟩, if_pos hle]
  · rw [if_neg hle, if_neg]
    rintro ⟨_, h | h⟩
    · omega
    · exact hle (by simpa using h)
theorem leaf_at {ps : List Int} {ns : List Q} (h : topoOkB ps ns = true) {x : Nat} (hx : x < ns.length) {q : Q} (hq : ns[x]? = some q) : q.t = (lfN ns (x : Int) : Int) ∧ lfN ns (x : Int) < ps.length := by
  obtain ⟨h1, _, q', h2, h3, _⟩ := lfN_ok h (x := (x : Int)) (by omega) (by omega)
  simp only [Int.toNat_natCast] at h2
  rw [hq] at h2
  rw [Option.some.inj h2]; exact ⟨h3, h1⟩
theorem upI_len {ps : List Int} (h : parOk ps) {l : Nat} (hl : l < ps.length) : (upI ps l).length ≤ ps.length := by
  have h1 := up_len h l hl
  have h2 := dep_le h l hl
  simp only [upI, List.length_map]; omega

set_option maxHeartbeats 8000000 in
theorem lowest_any (A B : Option Addr) (n c m d : Nat) (ps : List Int) (ns : List Q) (D : Option Addr) (k e : Nat) (nd : List Int) (w : World) (hn : n ≤ 1048576) (hm : m ≤ 1048576) (hr : Rd w A n 1 (ints ps)) (hq : Rd w B m 4 (flat ns)) (hl : ∀ g, A = some ⟨g, 0, none⟩ → g < w.heap.size) (hl2 : ∀ g, B = some ⟨g, 0, none⟩ → g < w.heap.size) (hk : k ≤ 1048576) (hd : Rd w D k 1 (ints nd)) (hl3 : ∀ g, D = some ⟨g, 0, none⟩ → g < w.heap.size) :
    Calls Try.prog 83 #[.agg #[.slice A n c, .slice B m d], .slice D k e] w fun e w' => e = .returned (.int .i64 (lowestV ps ns nd)) ∧ Below w.heap.size w w' := by
  have hpl := hr.ilen
  have hql : ns.length = m := by have := hq.1; rw [flat_len] at this; omega
  have hn9 : n ≤ 9223372036854775807 := by omega
  have hm9 : m ≤ 9223372036854775807 := by omega
  have HN := Lib.hid hn
  have HM := Lib.hid hm
  have HR := Lib.hid hr
  have HQ := Lib.hid hq
  have HL := Lib.hid hl
  have HL2 := Lib.hid hl2
  have HP := Lib.hid hpl
  have HQL := Lib.hid hql
  clear hn hm hr hq hl hl2 hpl hql
  have hdl := hd.ilen
  have hk9 : k ≤ 9223372036854775807 := by omega
  have HK := Lib.hid hk
  have HD := Lib.hid hd
  have HL3 := Lib.hid hl3
  have HDL := Lib.hid hdl
  clear hk hd hl3 hdl
  cases har : areB ps ns nd
  · have HF : Hid (lowestV ps ns nd = -1) := Lib.hid (by unfold lowestV; rw [har]; rfl)
    go_enter Try.func83, Try.ntmps83
    go_wp2_with fail
    refine (areNodes_any A B n c m d ps ns D k e nd _ HN.out HM.out (HR.out.below HL.out (by repeat (first | exact Below.refl _ _ | assumption | (refine bstep ?_ (below_drewN _ _)) | exact bstep (by assumption) (by assumption) | (refine bstep ?_ (below_alloc _ _)) | (refine bstep ?_ (by assumption)) | (refine Below.setCell ?_ (by simp <;> omega) _) | refine Below.drew ?_))) (HQ.out.below HL2.out (by repeat (first | exact Below.refl _ _ | assumption | (refine bstep ?_ (below_drewN _ _)) | exact bstep (by assumption) (by assumption) | (refine bstep ?_ (below_alloc _ _)) | (refine bstep ?_ (by assumption)) | (refine Below.setCell ?_ (by simp <;> omega) _) | refine Below.drew ?_))) (lt_below HL.out (by repeat (first | exact Below.refl _ _ | assumption | (refine bstep ?_ (below_drewN _ _)) | exact bstep (by assumption) (by assumption) | (refine bstep ?_ (below_alloc _ _)) | (refine bstep ?_ (by assumption)) | (refine Below.setCell ?_ (by simp <;> omega) _) | refine Below.drew ?_))) (lt_below HL2.out (by repeat (first | exact Below.refl _ _ | assumption | (refine bstep ?_ (below_drewN _ _)) | exact bstep (by assumption) (by assumption) | (refine bstep ?_ (below_alloc _ _)) | (refine bstep ?_ (by assumption)) | (refine Below.setCell ?_ (by simp <;> omega) _) | refine Below.drew ?_))) HK.out (HD.out.below HL3.out (by repeat (first | exact Below.refl _ _ | assumption | (refine bstep ?_ (below_drewN _ _)) | exact bstep (by assumption) (by assumption) | (refine bstep ?_ (below_alloc _ _)) | (refine bstep ?_ (by assumption)) | (refine Below.setCell ?_ (by simp <;> omega) _) | refine Below.drew ?_))) (lt_below HL3.out (by repeat (first | exact Below.refl _ _ | assumption | (refine bstep ?_ (below_drewN _ _)) | exact bstep (by assumption) (by assumption) | (refine bstep ?_ (below_alloc _ _)) | (refine bstep ?_ (by assumption)) | (refine Below.setCell ?_ (by simp <;> omega) _) | refine Below.drew ?_)))).mono ?_
    rintro e w1 ⟨rfl, hb1⟩
    rw [har]
    go_wp2
    go_ret
    exact ⟨ret_int HF.out.symm, (by repeat (first | exact Below.refl _ _ | assumption | (refine bstep ?_ (below_drewN _ _)) | exact bstep (by assumption) (by assumption) | (refine bstep ?_ (below_alloc _ _)) | (refine bstep ?_ (by assumption)) | (refine Below.setCell ?_ (by simp <;> omega) _) | refine Below.drew ?_))⟩
  · by_cases hk0 : k = 0
    · have HF : Hid (lowestV ps ns nd = -1) := Lib.hid (by unfold lowestV; rw [har, show nd.length = 0 by rw [HDL.out]; exact hk0]; rfl)
      subst hk0
      go_enter Try.func83, Try.ntmps83
      go_wp2_with fail
      refine (areNodes_any A B n c m d ps ns D 0 e nd _ HN.out HM.out (HR.out.below HL.out (by repeat (first | exact Below.refl _ _ | assumption | (refine bstep ?_ (below_drewN _ _)) | exact bstep (by assumption) (by assumption) | (refine bstep ?_ (below_alloc _ _)) | (refine bstep ?_ (by assumption)) | (refine Below.setCell ?_ (by simp <;> omega) _) | refine Below.drew ?_))) (HQ.out.below HL2.out (by repeat (first | exact Below.refl _ _ | assumption | (refine bstep ?_ (below_drewN _ _)) | exact bstep (by assumption) (by assumption) | (refine bstep ?_ (below_alloc _ _)) | (refine bstep ?_ (by assumption)) | (refine Below.setCell ?_ (by simp <;> omega) _) | refine Below.drew ?_))) (lt_below HL.out (by repeat (first | exact Below.refl _ _ | assumption | (refine bstep ?_ (below_drewN _ _)) | exact bstep (by assumption) (by assumption) | (refine bstep ?_ (below_alloc _ _)) | (refine bstep ?_ (by assumption)) | (refine Below.setCell ?_ (by simp <;> omega) _) | refine Below.drew ?_))) (lt_below HL2.out (by repeat (first | exact Below.refl _ _ | assumption | (refine bstep ?_ (below_drewN _ _)) | exact bstep (by assumption) (by assumption) | (refine bstep ?_ (below_alloc _ _)) | (refine bstep ?_ (by assumption)) | (refine Below.setCell ?_ (by simp <;> omega) _) | refine Below.drew ?_))) HK.out (HD.out.below HL3.out (by repeat (first | exact Below.refl _ _ | assumption | (refine bstep ?_ (below_drewN _ _)) | exact bstep (by assumption) (by assumption) | (refine bstep ?_ (below_alloc _ _)) | (refine bstep ?_ (by assumption)) | (refine Below.setCell ?_ (by simp <;> omega) _) | refine Below.drew ?_))) (lt_below HL3.out (by repeat (first | exact Below.refl _ _ | assumption | (refine bstep ?_ (below_drewN _ _)) | exact bstep (by assumption) (by assumption) | (refine bstep ?_ (below_alloc _ _)) | (refine bstep ?_ (by assumption)) | (refine Below.setCell ?_ (by simp <;> omega) _) | refine Below.drew ?_)))).mono ?_
      rintro e w1 ⟨rfl, hb1⟩
      rw [har]
      go_wp2
      go_ret
      exact ⟨ret_int HF.out.symm, (by repeat (first | exact Below.refl _ _ | assumption | (refine bstep ?_ (below_drewN _ _)) | exact bstep (by assumption) (by assumption) | (refine bstep ?_ (below_alloc _ _)) | (refine bstep ?_ (by assumption)) | (refine Below.setCell ?_ (by simp <;> omega) _) | refine Below.drew ?_))⟩
    have HF : Hid (lowestV ps ns nd = lowN ps (nd.map (lfN ns)) n) := Lib.hid (by unfold lowestV; rw [har, HP.out, HDL.out, decide_eq_true (show 1 ≤ k by omega)]; rfl)
    have htp : topoOkB ps ns = true := by simp only [areB, Bool.and_eq_true] at har; exact har.2
    obtain ⟨h1n, _, _, _, hok, hev, _⟩ := topo_parts htp
    rw [HP.out] at h1n
    have hk1 : ((k : Int) == 0) = false := by simp; omega
    have HO := Lib.hid hok
    have HV := Lib.hid hev
    have HT := Lib.hid htp
    have HAR := Lib.hid har
    go_enter Try.func83, Try.ntmps83
    go_wp2_with fail
    refine (areNodes_any A B n c m d ps ns D k e nd _ HN.out HM.out (HR.out.below HL.out (by repeat (first | exact Below.refl _ _ | assumption | (refine bstep ?_ (below_drewN _ _)) | exact bstep (by assumption) (by assumption) | (refine bstep ?_ (below_alloc _ _)) | (refine bstep ?_ (by assumption)) | (refine Below.setCell ?_ (by simp <;> omega) _) | refine Below.drew ?_))) (HQ.out.below HL2.out (by repeat (first | exact Below.refl _ _ | assumption | (refine bstep ?_ (below_drewN _ _)) | exact bstep (by assumption) (by assumption) | (refine bstep ?_ (below_alloc _ _)) | (refine bstep ?_ (by assumption)) | (refine Below.setCell ?_ (by simp <;> omega) _) | refine Below.drew ?_))) (lt_below HL.out (by repeat (first | exact Below.refl _ _ | assumption | (refine bstep ?_ (below_drewN _ _)) | exact bstep (by assumption) (by assumption) | (refine bstep ?_ (below_alloc _ _)) | (refine bstep ?_ (by assumption)) | (refine Below.setCell ?_ (by simp <;> omega) _) | refine Below.drew ?_))) (lt_below HL2.out (by repeat (first | exact Below.refl _ _ | assumption | (refine bstep ?_ (below_drewN _ _)) | exact bstep (by assumption) (by assumption) | (refine bstep ?_ (below_alloc _ _)) | (refine bstep ?_ (by assumption)) | (refine Below.setCell ?_ (by simp <;> omega) _) | refine Below.drew ?_))) HK.out (HD.out.below HL3.out (by repeat (first | exact Below.refl _ _ | assumption | (refine bstep ?_ (below_drewN _ _)) | exact bstep (by assumption) (by assumption) | (refine bstep ?_ (below_alloc _ _)) | (refine bstep ?_ (by assumption)) | (refine Below.setCell ?_ (by simp <;> omega) _) | refine Below.drew ?_))) (lt_below HL3.out (by repeat (first | exact Below.refl _ _ | assumption | (refine bstep ?_ (below_drewN _ _)) | exact bstep (by assumption) (by assumption) | (refine bstep ?_ (below_alloc _ _)) | (refine bstep ?_ (by assumption)) | (refine Below.setCell ?_ (by simp <;> omega) _) | refine Below.drew ?_)))).mono ?_
    rintro e w1 ⟨rfl, hb1⟩
    rw [har]
    have hs1 := hb1.size
    (try simp at hs1)
    have hk10 := fun o => hb1.cell (p := ⟨w.heap.size, o, none⟩) (by simp)
    have hy10 : w.heap.size < w1.heap.size := by omega
    clear har hok hev htp
    go_wp2
    go_loopw [5, 22] (fun v i wr => ∃ s : Nat, s ≤ n ∧ i = .int .i64 s ∧ v = .int .i64 (lowN ps (nd.map (lfN ns)) s) ∧ Below w.heap.size w wr ∧ w.heap.size < wr.heap.size ∧ wr.cell? ⟨w.heap.size, 0, none⟩ = some (.slice A n c) ∧ wr.cell? ⟨w.heap.size, 1, none⟩ = some (.slice B m d)) (fun _ i _ => n - (intOf i).toNat)
    case atStart => exact ⟨0, Nat.zero_le _, rfl, rfl, (by repeat (first | exact Below.refl _ _ | assumption | (refine bstep ?_ (below_drewN _ _)) | exact bstep (by assumption) (by assumption) | (refine bstep ?_ (below_alloc _ _)) | (refine bstep ?_ (by assumption)) | (refine Below.setCell ?_ (by simp <;> omega) _) | refine Below.drew ?_)), hy10, by simp [go_sem, *], by simp [go_sem, *]⟩
    case round =>
      obtain ⟨s, hs, rfl, rfl, hbw, hy0, bx0, bx1⟩ := hrel
      obtain ⟨wo, rfl⟩ : ∃ wo : World, wo = wr := ⟨_, rfl⟩
      by_cases hlt : s < n
      · have hlt' : (s : Int) < n := by omega
        go_wp2
        go_loopw [7, 27] (fun a v wi => ∃ i : Nat, i ≤ k ∧ v = .int .i64 i ∧ a = .bool (lowJ ps ns nd s i) ∧ Below w.heap.size w wi ∧ w.heap.size < wi.heap.size ∧ wi.cell? ⟨w.heap.size, 0, none⟩ = some (.slice A n c) ∧ wi.cell? ⟨w.heap.size, 1, none⟩ = some (.slice B m d)) (fun _ v _ => k - (intOf v).toNat)
        case atStart => exact ⟨0, Nat.zero_le _, rfl, by simp [lowJ], hbw, hy0, bx0, bx1⟩
        case round =>
        obtain ⟨i, hik, rfl, rfl, hbi, hy0i, bi0, bi1⟩ := hrel
        obtain ⟨wi, rfl⟩ : ∃ wi : World, wi = wr := ⟨_, rfl⟩
        by_cases hlti : i < k
        · have hlti' : (i : Int) < k := by omega
          obtain ⟨g, z, rfl, hz, d0⟩ := HD.out.int hlti
          have E0 := (hbi.cell (p := ⟨g, i, none⟩) (HL3.out g rfl)).trans d0
          obtain ⟨x, rfl, hxm, _⟩ := nodes_at HAR.out hz
          rw [HQL.out] at hxm
          obtain ⟨g', q, rfl, hqx, c0, c1, c2, c3⟩ := HQ.out.q hxm
          obtain ⟨hlf, hlp⟩ := leaf_at HT.out (by rw [HQL.out]; exact hxm) hqx
          rw [hlf] at c0
          rw [HP.out] at hlp
          have hg' := HL2.out g' rfl
          have C0 := (hbi.cell (p := ⟨g', x * 4, none⟩) hg').trans c0
          have hgr' : g' < wi.heap.size := Nat.lt_of_lt_of_le hg' hbi.size
          have hxm' : (x : Int) < m := by omega
          have hxm0 : (0 : Int) ≤ (x : Int) := by omega
          have HS := Lib.hid (lowJ_succ (ps := ps) (ns := ns) (s := s) hz)
          have HUL : Hid ((upI ps (lfN ns (x : Int))).length ≤ 1048577) := Lib.hid (by have h3 := upI_len HO.out (l := lfN ns (x : Int)) (by rw [HP.out]; exact hlp); have h4 := HN.out; rw [HP.out] at h3; omega)
          generalize hl9 : lfN ns (x : Int) = lf at C0 c0 hlp hlf HUL
          have HL9 := Lib.hid hl9
          have HBW := Lib.hid hbi
          clear hz d0 hqx c0 c1 c2 c3 hbi hlf hl9
          cases hb : lowJ ps ns nd s i
          · go_wp2
            refine wp_region_below (by kernel_rfl) (by kernel_rfl) (fun W hW => ?_)
            ((try dsimp only); repeat (first | (refine Det0.skip ?_ ?_; (focus (rfl; done)); (try simp only [putA, List.setIfInBounds_toArray, List.set_cons_zero, List.set_cons_succ])) | (refine Det0.pure ?_ ?_ ?_ ?_; rotate_left; (focus (rfl; done)); (focus ((intro w9 hJ); (skip); go_simp; (first | with_reducible rfl | exact eq_if3 | exact neq_if3 | skip); done)); (try simp only [putA, List.setIfInBounds_toArray, List.set_cons_zero, List.set_cons_succ])) | (refine Det0.step ?_ ?_ ?_ ?_; rotate_left; (focus (rfl; done)); (focus ((intro w9 K hJ hK); (skip); go_simp; (fail); done)); (try simp only [putA, List.setIfInBounds_toArray, List.set_cons_zero, List.set_cons_succ]))))
            refine Det0.nil (fun w9 hJ => ?_)
            have hJ0 : w.heap.size < W.heap.size := by rw [hW]; exact hy0i
            have HJ := Lib.hid (show Below w.heap.size w w9 from by have := HBW.out; rw [hW] at hJ; exact bstep (bstep this ((Below.refl _ _).drew)) hJ)
            have z0 := (hJ.cell (p := ⟨w.heap.size, 0, none⟩) hJ0).trans ((congrArg (fun v : World => v.cell? ⟨w.heap.size, 0, none⟩) hW).trans bi0)
            have z1 := (hJ.cell (p := ⟨w.heap.size, 1, none⟩) hJ0).trans ((congrArg (fun v : World => v.cell? ⟨w.heap.size, 1, none⟩) hW).trans bi1)
            have hJS := hJ.size
            have HJS : Hid (wi.heap.size ≤ w9.heap.size) := Lib.hid (by rw [hW] at hJS; exact hJS)
            have HBF := Lib.hid hb
            clear hJ hW hJS hJ0 hb
            go_wp2
            go_roundw
            case rel => exact ⟨i + 1, by omega, by go_num, by rw [HS.out, HBF.out]; rfl, HJ.out, by have := HJS.out; omega, z0, z1⟩
            case measure => simp [intOf]; omega
          · have HBF := Lib.hid hb
            clear hb
            go_wp2
            go_region_held3 (fun w' => w'.cell? ⟨w.heap.size, 0, none⟩ = some (.slice A n c) ∧ w'.cell? ⟨w.heap.size, 1, none⟩ = some (.slice (some ⟨g', 0, none⟩) m d) ∧ w'.cell? ⟨g', x * 4, none⟩ = some (.int .i64 (lf : Int))) (simp [go_sem, *, World.cell?_alloc_some, World.cell?_setCell_far, Nat.lt_add_right, Nat.ne_of_gt]) (first | (go_at_call 145; refine (above_any A (some ⟨g', 0, none⟩) n c m d ps lf _ HN.out (HR.out.below HL.out (by have := HBW.out; repeat (first | exact Below.refl _ _ | assumption | (refine bstep ?_ (below_drewN _ _)) | exact bstep (by assumption) (by assumption) | (refine bstep ?_ (below_alloc _ _)) | (refine bstep ?_ (by assumption)) | (refine Below.setCell ?_ (by simp <;> omega) _) | refine Below.drew ?_))) (lt_below HL.out (by have := HBW.out; repeat (first | exact Below.refl _ _ | assumption | (refine bstep ?_ (below_drewN _ _)) | exact bstep (by assumption) (by assumption) | (refine bstep ?_ (below_alloc _ _)) | (refine bstep ?_ (by assumption)) | (refine Below.setCell ?_ (by simp <;> omega) _) | refine Below.drew ?_))) HO.out (by omega)).mono ?_; rintro e w2 ⟨v2, rfl, own2, hb2⟩; obtain ⟨Y, cy, rfl, rd2⟩ := own_rd own2; have HR2 := Lib.hid rd2; have hs2 := hb2.size; (try simp at hs2); have hk20 := fun o => hb2.cell (p := ⟨w.heap.size, o, none⟩) (by first | omega | (simp <;> omega)); have hk21 := fun o => hb2.cell (p := ⟨g', o, none⟩) (by first | omega | (simp <;> omega)); clear own2 rd2) | (go_at_call 141; refine (contains_any Y _ cy (upI ps lf) (s : Int) _ HUL.out HR2.out).mono ?_; rintro e w3 ⟨rfl, hw3⟩; have hb3 := below_same hw3; have hs3 := hb3.size; have hk30 := fun o => hb3.cell (p := ⟨w.heap.size, o, none⟩) (show w.heap.size < w2.heap.size by omega); have hk31 := fun o => hb3.cell (p := ⟨g', o, none⟩) (show g' < w2.heap.size by omega); clear hw3))
            go_wp2
            go_roundw
            case rel => exact ⟨i + 1, by omega, by go_num, by rw [HS.out, HBF.out, HL9.out]; simp only [Bool.true_and]; exact congrArg Value.bool (Bool.eq_iff_iff.2 (by rw [hasZ_up]; simp)), by have := HBW.out; repeat (first | exact Below.refl _ _ | assumption | (refine bstep ?_ (below_drewN _ _)) | exact bstep (by assumption) (by assumption) | (refine bstep ?_ (below_alloc _ _)) | (refine bstep ?_ (by assumption)) | (refine Below.setCell ?_ (by simp <;> omega) _) | refine Below.drew ?_), by omega, by simp [go_sem, *], by simp [go_sem, *]⟩
            case measure => simp [intOf]; omega
        · have hik9 : i = k := by omega
          have HLB := Lib.hid (lowJ_all (ps := ps) (ns := ns) (s := s) HDL.out)
          rw [hik9, HLB.out]
          clear hik9 hbw bx0 bx1 hy0
          have HN1 := Lib.hid (lowN_succ ps (nd.map (lfN ns)) s)
          cases hb : lowB ps (nd.map (lfN ns)) s
          · have HNB : Hid (lowN ps (nd.map (lfN ns)) (s + 1) = lowN ps (nd.map (lfN ns)) s) := Lib.hid (by rw [HN1.out]; exact if_neg (by simp [hb]))
            clear hb
            go_wp2
            refine wp_region_below (by kernel_rfl) (by kernel_rfl) (fun W hW => ?_)
            have X0 : W.cell? ⟨w.heap.size, 0, none⟩ = some (.slice A n c) := by rw [hW]; exact bi0
            have X1 : W.cell? ⟨w.heap.size, 1, none⟩ = some (.slice B m d) := by rw [hW]; exact bi1
            have WS : w.heap.size < W.heap.size := by rw [hW]; exact hy0i
            have WB : Below w.heap.size w W := by rw [hW]; exact hbi.drew
            have RDW := Lib.hid (HR.out.below HL.out WB)
            have HLW := Lib.hid (lt_below HL.out WB)
            have HWB := Lib.hid WB
            clear hW WB hbi bi0 bi1
            ((try dsimp only); repeat (first | (refine Det0.skip ?_ ?_; (focus (rfl; done)); (try simp only [putA, List.setIfInBounds_toArray, List.set_cons_zero, List.set_cons_succ])) | (refine Det0.pure ?_ ?_ ?_ ?_; rotate_left; (focus (rfl; done)); (focus ((intro w9 hJ); (have hk0 := fun o => hJ.cell (p := ⟨w.heap.size, o, none⟩) WS); go_simp; (first | with_reducible rfl | exact eq_if3 | exact neq_if3 | skip); done)); (try simp only [putA, List.setIfInBounds_toArray, List.set_cons_zero, List.set_cons_succ])) | (refine Det0.step ?_ ?_ ?_ ?_; rotate_left; (focus (rfl; done)); (focus ((intro w9 K hJ hK); (have hk0 := fun o => hJ.cell (p := ⟨w.heap.size, o, none⟩) WS); go_simp; (fail); done)); (try simp only [putA, List.setIfInBounds_toArray, List.set_cons_zero, List.set_cons_succ]))))
            refine Det0.nil (fun w9 hJ => ?_)
            have HJ := Lib.hid (bstep HWB.out hJ)
            have z0 := (hJ.cell (p := ⟨w.heap.size, 0, none⟩) WS).trans X0
            have z1 := (hJ.cell (p := ⟨w.heap.size, 1, none⟩) WS).trans X1
            have hJS := hJ.size
            have HSZ9 : Hid (w.heap.size < w9.heap.size) := Lib.hid (by omega)
            clear hJ X0 X1 hJS WS
            go_wp2
            go_roundw
            case rel => exact ⟨s + 1, by omega, by go_num, by rw [HNB.out], HJ.out, HSZ9.out, z0, z1⟩
            case measure => simp [intOf]; omega
          · by_cases hneg : lowN ps (nd.map (lfN ns)) s < 0
            · have HNB : Hid (lowN ps (nd.map (lfN ns)) (s + 1) = (s : Int)) := Lib.hid (by rw [HN1.out]; exact if_pos ⟨hb, Or.inl hneg⟩)
              clear hb
              generalize lowN ps (nd.map (lfN ns)) s = best at hneg HN1
              go_wp2
              refine wp_region_below (by kernel_rfl) (by kernel_rfl) (fun W hW => ?_)
              have X0 : W.cell? ⟨w.heap.size, 0, none⟩ = some (.slice A n c) := by rw [hW]; exact bi0
              have X1 : W.cell? ⟨w.heap.size, 1, none⟩ = some (.slice B m d) := by rw [hW]; exact bi1
              have WS : w.heap.size < W.heap.size := by rw [hW]; exact hy0i
              have WB : Below w.heap.size w W := by rw [hW]; exact hbi.drew
              have RDW := Lib.hid (HR.out.below HL.out WB)
              have HLW := Lib.hid (lt_below HL.out WB)
              have HWB := Lib.hid WB
              clear hW WB hbi bi0 bi1
              ((try dsimp only); repeat (first | (refine Det0.skip ?_ ?_; (focus (rfl; done)); (try simp only [putA, List.setIfInBounds_toArray, List.set_cons_zero, List.set_cons_succ])) | (refine Det0.pure ?_ ?_ ?_ ?_; rotate_left; (focus (rfl; done)); (focus ((intro w9 hJ); (have hk0 := fun o => hJ.cell (p := ⟨w.heap.size, o, none⟩) WS); go_simp; (first | with_reducible rfl | exact eq_if3 | exact neq_if3 | skip); done)); (try simp only [putA, List.setIfInBounds_toArray, List.set_cons_zero, List.set_cons_succ])) | (refine Det0.step ?_ ?_ ?_ ?_; rotate_left; (focus (rfl; done)); (focus ((intro w9 K hJ hK); (have hk0 := fun o => hJ.cell (p := ⟨w.heap.size, o, none⟩) WS); go_simp; (fail); done)); (try simp only [putA, List.setIfInBounds_toArray, List.set_cons_zero, List.set_cons_succ]))))
              refine Det0.nil (fun w9 hJ => ?_)
              have HJ := Lib.hid (bstep HWB.out hJ)
              have z0 := (hJ.cell (p := ⟨w.heap.size, 0, none⟩) WS).trans X0
              have z1 := (hJ.cell (p := ⟨w.heap.size, 1, none⟩) WS).trans X1
              have hJS := hJ.size
              have HSZ9 : Hid (w.heap.size < w9.heap.size) := Lib.hid (by omega)
              clear hJ X0 X1 hJS WS
              go_wp2
              go_roundw
              case rel => exact ⟨s + 1, by omega, by go_num, by rw [HNB.out], HJ.out, HSZ9.out, z0, z1⟩
              case measure => simp [intOf]; omega
            · obtain ⟨b, hbe, hbs⟩ := lowN_lt hneg
              have HNB : Hid (lowN ps (nd.map (lfN ns)) (s + 1) = if lev ps s ≤ lev ps b then (s : Int) else (b : Int)) := Lib.hid (lowN_step hb hbe)
              rw [hbe]
              have hneg' : ¬ ((b : Int) < 0) := by omega
              clear hb hneg hbe HN1
              go_wp2
              refine wp_region_below (by kernel_rfl) (by kernel_rfl) (fun W hW => ?_)
              have X0 : W.cell? ⟨w.heap.size, 0, none⟩ = some (.slice A n c) := by rw [hW]; exact bi0
              have X1 : W.cell? ⟨w.heap.size, 1, none⟩ = some (.slice B m d) := by rw [hW]; exact bi1
              have WS : w.heap.size < W.heap.size := by rw [hW]; exact hy0i
              have WB : Below w.heap.size w W := by rw [hW]; exact hbi.drew
              have RDW := Lib.hid (HR.out.below HL.out WB)
              have HLW := Lib.hid (lt_below HL.out WB)
              have HWB := Lib.hid WB
              clear hW WB hbi bi0 bi1
              ((try dsimp only); repeat (first | (refine Det0.skip ?_ ?_; (focus (rfl; done)); (try simp only [putA, List.setIfInBounds_toArray, List.set_cons_zero, List.set_cons_succ])) | (refine Det0.pure ?_ ?_ ?_ ?_; rotate_left; (focus (rfl; done)); (focus ((intro w9 hJ); (have hk0 := fun o => hJ.cell (p := ⟨w.heap.size, o, none⟩) WS); go_simp; (first | with_reducible rfl | exact eq_if3 | exact neq_if3 | skip); done)); (try simp only [putA, List.setIfInBounds_toArray, List.set_cons_zero, List.set_cons_succ])) | (refine Det0.step ?_ ?_ ?_ ?_; rotate_left; (focus (rfl; done)); (focus ((intro w9 K hJ hK); (have hk0 := fun o => hJ.cell (p := ⟨w.heap.size, o, none⟩) WS); go_simp; ((go_at_call 137; refine (level_any A B n c m d ps _ _ HN.out h1n (RDW.out.below HLW.out hJ) (lt_below HLW.out hJ) HO.out HV.out (by omega)).mono ?_; rintro e w1 ⟨rfl, hb1⟩; exact hK.out _ (bstep hJ hb1))); done)); (try simp only [putA, List.setIfInBounds_toArray, List.set_cons_zero, List.set_cons_succ]))))
              refine Det0.nil (fun w9 hJ => ?_)
              have HJ := Lib.hid (bstep HWB.out hJ)
              have z0 := (hJ.cell (p := ⟨w.heap.size, 0, none⟩) WS).trans X0
              have z1 := (hJ.cell (p := ⟨w.heap.size, 1, none⟩) WS).trans X1
              have hJS := hJ.size
              have HSZ9 : Hid (w.heap.size < w9.heap.size) := Lib.hid (by omega)
              by_cases hle : lev ps s ≤ lev ps b
              · have HNC : Hid (lowN ps (nd.map (lfN ns)) (s + 1) = (s : Int)) := Lib.hid (by rw [HNB.out, if_pos hle])
                clear HNB
                clear hJ X0 X1 hJS WS
                go_wp2
                go_roundw
                case rel => exact ⟨s + 1, by omega, by go_num, by rw [HNC.out], HJ.out, HSZ9.out, z0, z1⟩
                case measure => simp [intOf]; omega
              · have HNC : Hid (lowN ps (nd.map (lfN ns)) (s + 1) = (b : Int)) := Lib.hid (by rw [HNB.out, if_neg hle])
                have hle' : lev ps b < lev ps s := by omega
                clear HNB hle
                clear hJ X0 X1 hJS WS
                go_wp2
                go_roundw
                case rel => exact ⟨s + 1, by omega, by go_num, by rw [HNC.out], HJ.out, HSZ9.out, z0, z1⟩
                case measure => simp [intOf]; omega
      · have hs9 : s = n := by omega
        have HB := Lib.hid hbw
        subst hs9
        clear hbw
        go_wp2
        go_ret
        exact ⟨ret_int HF.out.symm, HB.out⟩

set_option maxHeartbeats 8000000 in
theorem slowest_any (A B : Option Addr) (n c m d : Nat) (ps : List Int) (ns : List Q) (D : Option Addr) (k e : Nat) (nd : List Int) (w : World) (hn : n ≤ 1048576) (hm : m ≤ 1048576) (hr : Rd w A n 1 (ints ps)) (hq : Rd w B m 4 (flat ns)) (hl : ∀ g, A = some ⟨g, 0, none⟩ → g < w.heap.size) (hl2 : ∀ g, B = some ⟨g, 0, none⟩ → g < w.heap.size) (hk : k ≤ 1048576) (hd : Rd w D k 1 (ints nd)) (hl3 : ∀ g, D = some ⟨g, 0, none⟩ → g < w.heap.size) :
    Calls Try.prog 82 #[.agg #[.slice A n c, .slice B m d], .slice D k e] w fun e w' => e = .returned (.int .i64 (lowestV ps ns nd)) ∧ Below w.heap.size w w' := by
  have hpl := hr.ilen
  have hql : ns.length = m := by have := hq.1; rw [flat_len] at this; omega
  have hn9 : n ≤ 9223372036854775807 := by omega
  have hm9 : m ≤ 9223372036854775807 := by omega
  have HN := Lib.hid hn
  have HM := Lib.hid hm
  have HR := Lib.hid hr
  have HQ := Lib.hid hq
  have HL := Lib.hid hl
  have HL2 := Lib.hid hl2
  have HP := Lib.hid hpl
  have HQL := Lib.hid hql
  clear hn hm hr hq hl hl2 hpl hql
  have hdl := hd.ilen
  have hk9 : k ≤ 9223372036854775807 := by omega
  have HK := Lib.hid hk
  have HD := Lib.hid hd
  have HL3 := Lib.hid hl3
  have HDL := Lib.hid hdl
  clear hk hd hl3 hdl
  cases har : areB ps ns nd
  · have HF : Hid (lowestV ps ns nd = -1) := Lib.hid (by unfold lowestV; rw [har]; rfl)
    go_enter Try.func82, Try.ntmps82
    go_wp2_with fail
    refine (sNodes_any A B n c m d ps ns D k e nd _ HN.out HM.out (HR.out.below HL.out (by repeat (first | exact Below.refl _ _ | assumption | (refine bstep ?_ (below_drewN _ _)) | exact bstep (by assumption) (by assumption) | (refine bstep ?_ (below_alloc _ _)) | (refine bstep ?_ (by assumption)) | (refine Below.setCell ?_ (by simp <;> omega) _) | refine Below.drew ?_))) (HQ.out.below HL2.out (by repeat (first | exact Below.refl _ _ | assumption | (refine bstep ?_ (below_drewN _ _)) | exact bstep (by assumption) (by assumption) | (refine bstep ?_ (below_alloc _ _)) | (refine bstep ?_ (by assumption)) | (refine Below.setCell ?_ (by simp <;> omega) _) | refine Below.drew ?_))) (lt_below HL.out (by repeat (first | exact Below.refl _ _ | assumption | (refine bstep ?_ (below_drewN _ _)) | exact bstep (by assumption) (by assumption) | (refine bstep ?_ (below_alloc _ _)) | (refine bstep ?_ (by assumption)) | (refine Below.setCell ?_ (by simp <;> omega) _) | refine Below.drew ?_))) (lt_below HL2.out (by repeat (first | exact Below.refl _ _ | assumption | (refine bstep ?_ (below_drewN _ _)) | exact bstep (by assumption) (by assumption) | (refine bstep ?_ (below_alloc _ _)) | (refine bstep ?_ (by assumption)) | (refine Below.setCell ?_ (by simp <;> omega) _) | refine Below.drew ?_))) HK.out (HD.out.below HL3.out (by repeat (first | exact Below.refl _ _ | assumption | (refine bstep ?_ (below_drewN _ _)) | exact bstep (by assumption) (by assumption) | (refine bstep ?_ (below_alloc _ _)) | (refine bstep ?_ (by assumption)) | (refine Below.setCell ?_ (by simp <;> omega) _) | refine Below.drew ?_))) (lt_below HL3.out (by repeat (first | exact Below.refl _ _ | assumption | (refine bstep ?_ (below_drewN _ _)) | exact bstep (by assumption) (by assumption) | (refine bstep ?_ (below_alloc _ _)) | (refine bstep ?_ (by assumption)) | (refine Below.setCell ?_ (by simp <;> omega) _) | refine Below.drew ?_)))).mono ?_
    rintro e w1 ⟨rfl, hb1⟩
    rw [har]
    go_wp2
    go_ret
    exact ⟨ret_int HF.out.symm, (by repeat (first | exact Below.refl _ _ | assumption | (refine bstep ?_ (below_drewN _ _)) | exact bstep (by assumption) (by assumption) | (refine bstep ?_ (below_alloc _ _)) | (refine bstep ?_ (by assumption)) | (refine Below.setCell ?_ (by simp <;> omega) _) | refine Below.drew ?_))⟩
  · by_cases hk0 : k = 0
    · have HF : Hid (lowestV ps ns nd = -1) := Lib.hid (by unfold lowestV; rw [har, show nd.length = 0 by rw [HDL.out]; exact hk0]; rfl)
      subst hk0
      go_enter Try.func82, Try.ntmps82
      go_wp2_with fail
      refine (sNodes_any A B n c m d ps ns D 0 e nd _ HN.out HM.out (HR.out.below HL.out (by repeat (first | exact Below.refl _ _ | assumption | (refine bstep ?_ (below_drewN _ _)) | exact bstep (by assumption) (by assumption) | (refine bstep ?_ (below_alloc _ _)) | (refine bstep ?_ (by assumption)) | (refine Below.setCell ?_ (by simp <;> omega) _) | refine Below.drew ?_))) (HQ.out.below HL2.out (by repeat (first | exact Below.refl _ _ | assumption | (refine bstep ?_ (below_drewN _ _)) | exact bstep (by assumption) (by assumption) | (refine bstep ?_ (below_alloc _ _)) | (refine bstep ?_ (by assumption)) | (refine Below.setCell ?_ (by simp <;> omega) _) | refine Below.drew ?_))) (lt_below HL.out (by repeat (first | exact Below.refl _ _ | assumption | (refine bstep ?_ (below_drewN _ _)) | exact bstep (by assumption) (by assumption) | (refine bstep ?_ (below_alloc _ _)) | (refine bstep ?_ (by assumption)) | (refine Below.setCell ?_ (by simp <;> omega) _) | refine Below.drew ?_))) (lt_below HL2.out (by repeat (first | exact Below.refl _ _ | assumption | (refine bstep ?_ (below_drewN _ _)) | exact bstep (by assumption) (by assumption) | (refine bstep ?_ (below_alloc _ _)) | (refine bstep ?_ (by assumption)) | (refine Below.setCell ?_ (by simp <;> omega) _) | refine Below.drew ?_))) HK.out (HD.out.below HL3.out (by repeat (first | exact Below.refl _ _ | assumption | (refine bstep ?_ (below_drewN _ _)) | exact bstep (by assumption) (by assumption) | (refine bstep ?_ (below_alloc _ _)) | (refine bstep ?_ (by assumption)) | (refine Below.setCell ?_ (by simp <;> omega) _) | refine Below.drew ?_))) (lt_below HL3.out (by repeat (first | exact Below.refl _ _ | assumption | (refine bstep ?_ (below_drewN _ _)) | exact bstep (by assumption) (by assumption) | (refine bstep ?_ (below_alloc _ _)) | (refine bstep ?_ (by assumption)) | (refine Below.setCell ?_ (by simp <;> omega) _) | refine Below.drew ?_)))).mono ?_
      rintro e w1 ⟨rfl, hb1⟩
      rw [har]
      go_wp2
      go_ret
      exact ⟨ret_int HF.out.symm, (by repeat (first | exact Below.refl _ _ | assumption | (refine bstep ?_ (below_drewN _ _)) | exact bstep (by assumption) (by assumption) | (refine bstep ?_ (below_alloc _ _)) | (refine bstep ?_ (by assumption)) | (refine Below.setCell ?_ (by simp <;> omega) _) | refine Below.drew ?_))⟩
    have HF : Hid (lowestV ps ns nd = lowN ps (nd.map (lfN ns)) n) := Lib.hid (by unfold lowestV; rw [har, HP.out, HDL.out, decide_eq_true (show 1 ≤ k by omega)]; rfl)
    have htp : topoOkB ps ns = true := by simp only [areB, Bool.and_eq_true] at har; exact har.2
    obtain ⟨h1n, _, _, _, hok, hev, _⟩ := topo_parts htp
    rw [HP.out] at h1n
    have hk1 : ((k : Int) == 0) = false := by simp; omega
    have HO := Lib.hid hok
    have HV := Lib.hid hev
    have HT := Lib.hid htp
    have HAR := Lib.hid har
    go_enter Try.func82, Try.ntmps82
    go_wp2_with fail
    refine (sNodes_any A B n c m d ps ns D k e nd _ HN.out HM.out (HR.out.below HL.out (by repeat (first | exact Below.refl _ _ | assumption | (refine bstep ?_ (below_drewN _ _)) | exact bstep (by assumption) (by assumption) | (refine bstep ?_ (below_alloc _ _)) | (refine bstep ?_ (by assumption)) | (refine Below.setCell ?_ (by simp <;> omega) _) | refine Below.drew ?_))) (HQ.out.below HL2.out (by repeat (first | exact Below.refl _ _ | assumption | (refine bstep ?_ (below_drewN _ _)) | exact bstep (by assumption) (by assumption) | (refine bstep ?_ (below_alloc _ _)) | (refine bstep ?_ (by assumption)) | (refine Below.setCell ?_ (by simp <;> omega) _) | refine Below.drew ?_))) (lt_below HL.out (by repeat (first | exact Below.refl _ _ | assumption | (refine bstep ?_ (below_drewN _ _)) | exact bstep (by assumption) (by assumption) | (refine bstep ?_ (below_alloc _ _)) | (refine bstep ?_ (by assumption)) | (refine Below.setCell ?_ (by simp <;> omega) _) | refine Below.drew ?_))) (lt_below HL2.out (by repeat (first | exact Below.refl _ _ | assumption | (refine bstep ?_ (below_drewN _ _)) | exact bstep (by assumption) (by assumption) | (refine bstep ?_ (below_alloc _ _)) | (refine bstep ?_ (by assumption)) | (refine Below.setCell ?_ (by simp <;> omega) _) | refine Below.drew ?_))) HK.out (HD.out.below HL3.out (by repeat (first | exact Below.refl _ _ | assumption | (refine bstep ?_ (below_drewN _ _)) | exact bstep (by assumption) (by assumption) | (refine bstep ?_ (below_alloc _ _)) | (refine bstep ?_ (by assumption)) | (refine Below.setCell ?_ (by simp <;> omega) _) | refine Below.drew ?_))) (lt_below HL3.out (by repeat (first | exact Below.refl _ _ | assumption | (refine bstep ?_ (below_drewN _ _)) | exact bstep (by assumption) (by assumption) | (refine bstep ?_ (below_alloc _ _)) | (refine bstep ?_ (by assumption)) | (refine Below.setCell ?_ (by simp <;> omega) _) | refine Below.drew ?_)))).mono ?_
    rintro e w1 ⟨rfl, hb1⟩
    rw [har]
    have hs1 := hb1.size
    (try simp at hs1)
    have hk10 := fun o => hb1.cell (p := ⟨w.heap.size, o, none⟩) (by simp)
    have hy10 : w.heap.size < w1.heap.size := by omega
    clear har hok hev htp
    go_wp2
    go_loopw [5, 23] (fun v i wr => ∃ s : Nat, s ≤ n ∧ i = .int .i64 s ∧ v = .int .i64 (lowN ps (nd.map (lfN ns)) s) ∧ Below w.heap.size w wr ∧ w.heap.size < wr.heap.size ∧ wr.cell? ⟨w.heap.size, 0, none⟩ = some (.slice A n c) ∧ wr.cell? ⟨w.heap.size, 1, none⟩ = some (.slice B m d)) (fun _ i _ => n - (intOf i).toNat)
    case atStart => exact ⟨0, Nat.zero_le _, rfl, rfl, (by repeat (first | exact Below.refl _ _ | assumption | (refine bstep ?_ (below_drewN _ _)) | exact bstep (by assumption) (by assumption) | (refine bstep ?_ (below_alloc _ _)) | (refine bstep ?_ (by assumption)) | (refine Below.setCell ?_ (by simp <;> omega) _) | refine Below.drew ?_)), hy10, by simp [go_sem, *], by simp [go_sem, *]⟩
    case round =>
      obtain ⟨s, hs, rfl, rfl, hbw, hy0, bx0, bx1⟩ := hrel
      obtain ⟨wo, rfl⟩ : ∃ wo : World, wo = wr := ⟨_, rfl⟩
      by_cases hlt : s < n
      · have hlt' : (s : Int) < n := by omega
        go_wp2
        go_loopw [7, 28] (fun a v wi => ∃ i : Nat, i ≤ k ∧ v = .int .i64 i ∧ a = .bool (lowJ ps ns nd s i) ∧ Below w.heap.size w wi ∧ w.heap.size < wi.heap.size ∧ wi.cell? ⟨w.heap.size, 0, none⟩ = some (.slice A n c) ∧ wi.cell? ⟨w.heap.size, 1, none⟩ = some (.slice B m d)) (fun _ v _ => k - (intOf v).toNat)
        case atStart => exact ⟨0, Nat.zero_le _, rfl, by simp [lowJ], hbw, hy0, bx0, bx1⟩
        case round =>
        obtain ⟨i, hik, rfl, rfl, hbi, hy0i, bi0, bi1⟩ := hrel
        obtain ⟨wi, rfl⟩ : ∃ wi : World, wi = wr := ⟨_, rfl⟩
        by_cases hlti : i < k
        · have hlti' : (i : Int) < k := by omega
          obtain ⟨g, z, rfl, hz, d0⟩ := HD.out.int hlti
          have E0 := (hbi.cell (p := ⟨g, i, none⟩) (HL3.out g rfl)).trans d0
          obtain ⟨x, rfl, hxm, _⟩ := nodes_at HAR.out hz
          rw [HQL.out] at hxm
          obtain ⟨g', q, rfl, hqx, c0, c1, c2, c3⟩ := HQ.out.q hxm
          obtain ⟨hlf, hlp⟩ := leaf_at HT.out (by rw [HQL.out]; exact hxm) hqx
          rw [hlf] at c0
          rw [HP.out] at hlp
          have hg' := HL2.out g' rfl
          have C0 := (hbi.cell (p := ⟨g', x * 4, none⟩) hg').trans c0
          have hgr' : g' < wi.heap.size := Nat.lt_of_lt_of_le hg' hbi.size
          have hxm' : (x : Int) < m := by omega
          have hxm0 : (0 : Int) ≤ (x : Int) := by omega
          have HS := Lib.hid (lowJ_succ (ps := ps) (ns := ns) (s := s) hz)
          have HUL : Hid ((upI ps (lfN ns (x : Int))).length ≤ 1048577) := Lib.hid (by have h3 := upI_len HO.out (l := lfN ns (x : Int)) (by rw [HP.out]; exact hlp); have h4 := HN.out; rw [HP.out] at h3; omega)
          generalize hl9 : lfN ns (x : Int) = lf at C0 c0 hlp hlf HUL
          have HL9 := Lib.hid hl9
          have HBW := Lib.hid hbi
          clear hz d0 hqx c0 c1 c2 c3 hbi hlf hl9
          go_wp2
          go_region_held3 (fun w' => w'.cell? ⟨w.heap.size, 0, none⟩ = some (.slice A n c) ∧ w'.cell? ⟨w.heap.size, 1, none⟩ = some (.slice (some ⟨g', 0, none⟩) m d) ∧ w'.cell? ⟨g', x * 4, none⟩ = some (.int .i64 (lf : Int))) (simp [go_sem, *, World.cell?_alloc_some, World.cell?_setCell_far, Nat.lt_add_right, Nat.ne_of_gt]) (first | (go_at_call 144; refine (sUp_any A (some ⟨g', 0, none⟩) n c m d ps lf _ HN.out (HR.out.below HL.out (by have := HBW.out; repeat (first | exact Below.refl _ _ | assumption | (refine bstep ?_ (below_drewN _ _)) | exact bstep (by assumption) (by assumption) | (refine bstep ?_ (below_alloc _ _)) | (refine bstep ?_ (by assumption)) | (refine Below.setCell ?_ (by simp <;> omega) _) | refine Below.drew ?_))) (lt_below HL.out (by have := HBW.out; repeat (first | exact Below.refl _ _ | assumption | (refine bstep ?_ (below_drewN _ _)) | exact bstep (by assumption) (by assumption) | (refine bstep ?_ (below_alloc _ _)) | (refine bstep ?_ (by assumption)) | (refine Below.setCell ?_ (by simp <;> omega) _) | refine Below.drew ?_))) HO.out (by omega)).mono ?_; rintro e w2 ⟨v2, rfl, own2, hb2⟩; obtain ⟨Y, cy, rfl, rd2⟩ := own_rd own2; have HR2 := Lib.hid rd2; have hs2 := hb2.size; (try simp at hs2); have hk20 := fun o => hb2.cell (p := ⟨w.heap.size, o, none⟩) (by first | omega | (simp <;> omega)); have hk21 := fun o => hb2.cell (p := ⟨g', o, none⟩) (by first | omega | (simp <;> omega)); clear own2 rd2) | (go_at_call 139; refine (shas_any Y _ cy (upI ps lf) (s : Int) _ HUL.out HR2.out).mono ?_; rintro e w3 ⟨rfl, hw3⟩; have hb3 := below_same hw3; have hs3 := hb3.size; have hk30 := fun o => hb3.cell (p := ⟨w.heap.size, o, none⟩) (show w.heap.size < w2.heap.size by omega); have hk31 := fun o => hb3.cell (p := ⟨g', o, none⟩) (show g' < w2.heap.size by omega); clear hw3))
          cases hm : hasZ (upI ps lf) (s : Int)
          · have HM9 : Hid (decide (s ∈ up ps lf) = false) := Lib.hid (by rw [decide_eq_false_iff_not]; intro h; rw [hasZ_up.2 h] at hm; cases hm)
            clear hm
            go_wp2
            go_roundw
            case rel => exact ⟨i + 1, by omega, by go_num, by rw [HS.out, HL9.out, HM9.out, Bool.and_false], by have := HBW.out; repeat (first | exact Below.refl _ _ | assumption | (refine bstep ?_ (below_drewN _ _)) | exact bstep (by assumption) (by assumption) | (refine bstep ?_ (below_alloc _ _)) | (refine bstep ?_ (by assumption)) | (refine Below.setCell ?_ (by simp <;> omega) _) | refine Below.drew ?_), by omega, by simp [go_sem, *], by simp [go_sem, *]⟩
            case measure => simp [intOf]; omega
          · have HM9 : Hid (decide (s ∈ up ps lf) = true) := Lib.hid (by rw [decide_eq_true_eq]; exact hasZ_up.1 hm)
            clear hm
            go_wp2
            go_roundw
            case rel => exact ⟨i + 1, by omega, by go_num, by rw [HS.out, HL9.out, HM9.out, Bool.and_true], by have := HBW.out; repeat (first | exact Below.refl _ _ | assumption | (refine bstep ?_ (below_drewN _ _)) | exact bstep (by assumption) (by assumption) | (refine bstep ?_ (below_alloc _ _)) | (refine bstep ?_ (by assumption)) | (refine Below.setCell ?_ (by simp <;> omega) _) | refine Below.drew ?_), by omega, by simp [go_sem, *], by simp [go_sem, *]⟩
            case measure => simp [intOf]; omega
        · have hik9 : i = k := by omega
          have HLB := Lib.hid (lowJ_all (ps := ps) (ns := ns) (s := s) HDL.out)
          rw [hik9, HLB.out]
          clear hik9 hbw bx0 bx1 hy0
          have HN1 := Lib.hid (lowN_succ ps (nd.map (lfN ns)) s)
          cases hb : lowB ps (nd.map (lfN ns)) s
          · have HNB : Hid (lowN ps (nd.map (lfN ns)) (s + 1) = lowN ps (nd.map (lfN ns)) s) := Lib.hid (by rw [HN1.out]; exact if_neg (by simp [hb]))
            clear hb
            go_wp2
            refine wp_region_below (by kernel_rfl) (by kernel_rfl) (fun W hW => ?_)
            have X0 : W.cell? ⟨w.heap.size, 0, none⟩ = some (.slice A n c) := by rw [hW]; exact bi0
            have X1 : W.cell? ⟨w.heap.size, 1, none⟩ = some (.slice B m d) := by rw [hW]; exact bi1
            have WS : w.heap.size < W.heap.size := by rw [hW]; exact hy0i
            have WB : Below w.heap.size w W := by rw [hW]; exact hbi.drew
            have RDW := Lib.hid (HR.out.below HL.out WB)
            have HLW := Lib.hid (lt_below HL.out WB)
            have HWB := Lib.hid WB
            clear hW WB hbi bi0 bi1
            ((try dsimp only); repeat (first | (refine Det0.skip ?_ ?_; (focus (rfl; done)); (try simp only [putA, List.setIfInBounds_toArray, List.set_cons_zero, List.set_cons_succ])) | (refine Det0.pure ?_ ?_ ?_ ?_; rotate_left; (focus (rfl; done)); (focus ((intro w9 hJ); (have hk0 := fun o => hJ.cell (p := ⟨w.heap.size, o, none⟩) WS); go_simp; (first | with_reducible rfl | exact eq_if3 | exact neq_if3 | skip); done)); (try simp only [putA, List.setIfInBounds_toArray, List.set_cons_zero, List.set_cons_succ])) | (refine Det0.step ?_ ?_ ?_ ?_; rotate_left; (focus (rfl; done)); (focus ((intro w9 K hJ hK); (have hk0 := fun o => hJ.cell (p := ⟨w.heap.size, o, none⟩) WS); go_simp; (fail); done)); (try simp only [putA, List.setIfInBounds_toArray, List.set_cons_zero, List.set_cons_succ]))))
            refine Det0.nil (fun w9 hJ => ?_)
            have HJ := Lib.hid (bstep HWB.out hJ)
            have z0 := (hJ.cell (p := ⟨w.heap.size, 0, none⟩) WS).trans X0
            have z1 := (hJ.cell (p := ⟨w.heap.size, 1, none⟩) WS).trans X1
            have hJS := hJ.size
            have HSZ9 : Hid (w.heap.size < w9.heap.size) := Lib.hid (by omega)
            clear hJ X0 X1 hJS WS
            go_wp2
            go_roundw
            case rel => exact ⟨s + 1, by omega, by go_num, by rw [HNB.out], HJ.out, HSZ9.out, z0, z1⟩
            case measure => simp [intOf]; omega
          · by_cases hneg : lowN ps (nd.map (lfN ns)) s < 0
            · have HNB : Hid (lowN ps (nd.map (lfN ns)) (s + 1) = (s : Int)) := Lib.hid (by rw [HN1.out]; exact if_pos ⟨hb, Or.inl hneg⟩)
              clear hb
              generalize lowN ps (nd.map (lfN ns)) s = best at hneg HN1
              go_wp2
              refine wp_region_below (by kernel_rfl) (by kernel_rfl) (fun W hW => ?_)
              have X0 : W.cell? ⟨w.heap.size, 0, none⟩ = some (.slice A n c) := by rw [hW]; exact bi0
              have X1 : W.cell? ⟨w.heap.size, 1, none⟩ = some (.slice B m d) := by rw [hW]; exact bi1
              have WS : w.heap.size < W.heap.size := by rw [hW]; exact hy0i
              have WB : Below w.heap.size w W := by rw [hW]; exact hbi.drew
              have RDW := Lib.hid (HR.out.below HL.out WB)
              have HLW := Lib.hid (lt_below HL.out WB)
              have HWB := Lib.hid WB
              clear hW WB hbi bi0 bi1
              ((try dsimp only); repeat (first | (refine Det0.skip ?_ ?_; (focus (rfl; done)); (try simp only [putA, List.setIfInBounds_toArray, List.set_cons_zero, List.set_cons_succ])) | (refine Det0.pure ?_ ?_ ?_ ?_; rotate_left; (focus (rfl; done)); (focus ((intro w9 hJ); (have hk0 := fun o => hJ.cell (p := ⟨w.heap.size, o, none⟩) WS); go_simp; (first | with_reducible rfl | exact eq_if3 | exact neq_if3 | skip); done)); (try simp only [putA, List.setIfInBounds_toArray, List.set_cons_zero, List.set_cons_succ])) | (refine Det0.step ?_ ?_ ?_ ?_; rotate_left; (focus (rfl; done)); (focus ((intro w9 K hJ hK); (have hk0 := fun o => hJ.cell (p := ⟨w.heap.size, o, none⟩) WS); go_simp; (fail); done)); (try simp only [putA, List.setIfInBounds_toArray, List.set_cons_zero, List.set_cons_succ]))))
              refine Det0.nil (fun w9 hJ => ?_)
              have HJ := Lib.hid (bstep HWB.out hJ)
              have z0 := (hJ.cell (p := ⟨w.heap.size, 0, none⟩) WS).trans X0
              have z1 := (hJ.cell (p := ⟨w.heap.size, 1, none⟩) WS).trans X1
              have hJS := hJ.size
              have HSZ9 : Hid (w.heap.size < w9.heap.size) := Lib.hid (by omega)
              clear hJ X0 X1 hJS WS
              go_wp2
              go_roundw
              case rel => exact ⟨s + 1, by omega, by go_num, by rw [HNB.out], HJ.out, HSZ9.out, z0, z1⟩
              case measure => simp [intOf]; omega
            · obtain ⟨b, hbe, hbs⟩ := lowN_lt hneg
              have HNB : Hid (lowN ps (nd.map (lfN ns)) (s + 1) = if lev ps s ≤ lev ps b then (s : Int) else (b : Int)) := Lib.hid (lowN_step hb hbe)
              rw [hbe]
              have hneg' : ¬ ((b : Int) < 0) := by omega
              clear hb hneg hbe HN1
              go_wp2
              refine wp_region_below (by kernel_rfl) (by kernel_rfl) (fun W hW => ?_)
              have X0 : W.cell? ⟨w.heap.size, 0, none⟩ = some (.slice A n c) := by rw [hW]; exact bi0
              have X1 : W.cell? ⟨w.heap.size, 1, none⟩ = some (.slice B m d) := by rw [hW]; exact bi1
              have WS : w.heap.size < W.heap.size := by rw [hW]; exact hy0i
              have WB : Below w.heap.size w W := by rw [hW]; exact hbi.drew
              have RDW := Lib.hid (HR.out.below HL.out WB)
              have HLW := Lib.hid (lt_below HL.out WB)
              have HWB := Lib.hid WB
              clear hW WB hbi bi0 bi1
              ((try dsimp only); repeat (first | (refine Det0.skip ?_ ?_; (focus (rfl; done)); (try simp only [putA, List.setIfInBounds_toArray, List.set_cons_zero, List.set_cons_succ])) | (refine Det0.pure ?_ ?_ ?_ ?_; rotate_left; (focus (rfl; done)); (focus ((intro w9 hJ); (have hk0 := fun o => hJ.cell (p := ⟨w.heap.size, o, none⟩) WS); go_simp; (first | with_reducible rfl | exact eq_if3 | exact neq_if3 | skip); done)); (try simp only [putA, List.setIfInBounds_toArray, List.set_cons_zero, List.set_cons_succ])) | (refine Det0.step ?_ ?_ ?_ ?_; rotate_left; (focus (rfl; done)); (focus ((intro w9 K hJ hK); (have hk0 := fun o => hJ.cell (p := ⟨w.heap.size, o, none⟩) WS); go_simp; ((go_at_call 130; refine (slevel_any n A B n c m d ps _ _ (Nat.sub_le _ _) HN.out (RDW.out.below HLW.out hJ) (lt_below HLW.out hJ) HO.out (by omega)).mono ?_; rintro e w1 ⟨rfl, hb1⟩; exact hK.out _ (bstep hJ hb1))); done)); (try simp only [putA, List.setIfInBounds_toArray, List.set_cons_zero, List.set_cons_succ]))))
              refine Det0.nil (fun w9 hJ => ?_)
              have HJ := Lib.hid (bstep HWB.out hJ)
              have z0 := (hJ.cell (p := ⟨w.heap.size, 0, none⟩) WS).trans X0
              have z1 := (hJ.cell (p := ⟨w.heap.size, 1, none⟩) WS).trans X1
              have hJS := hJ.size
              have HSZ9 : Hid (w.heap.size < w9.heap.size) := Lib.hid (by omega)
              by_cases hle : lev ps s ≤ lev ps b
              · have HNC : Hid (lowN ps (nd.map (lfN ns)) (s + 1) = (s : Int)) := Lib.hid (by rw [HNB.out, if_pos hle])
                clear HNB
                clear hJ X0 X1 hJS WS
                go_wp2
                go_roundw
                case rel => exact ⟨s + 1, by omega, by go_num, by rw [HNC.out], HJ.out, HSZ9.out, z0, z1⟩
                case measure => simp [intOf]; omega
              · have HNC : Hid (lowN ps (nd.map (lfN ns)) (s + 1) = (b : Int)) := Lib.hid (by rw [HNB.out, if_neg hle])
                have hle' : lev ps b < lev ps s := by omega
                clear HNB hle
                clear hJ X0 X1 hJS WS
                go_wp2
                go_roundw
                case rel => exact ⟨s + 1, by omega, by go_num, by rw [HNC.out], HJ.out, HSZ9.out, z0, z1⟩
                case measure => simp [intOf]; omega
      · have hs9 : s = n := by omega
        have HB := Lib.hid hbw
        subst hs9
        clear hbw
        go_wp2
        go_ret
        exact ⟨ret_int HF.out.symm, HB.out⟩
end Go.Proofs.Ytjnfdcojccgfoaa
