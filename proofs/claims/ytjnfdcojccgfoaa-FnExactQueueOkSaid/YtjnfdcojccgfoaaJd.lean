/-
  Contracts of QueueOk.
-/
import Derived.Test.YtjnfdcojccgfoaaJc
import Derived.Test.YtjnfdcojccgfoaaDt
import Derived.Shelf.Abstract
import Derived.Test.YtjnfdcojccgfoaaGx
namespace Go.Proofs.Ytjnfdcojccgfoaa
set_option linter.unusedSimpArgs false
set_option linter.unusedVariables false
set_option linter.unnecessarySimpa false
open Go.RowKit
def qAt (js : List J) (k : Nat) : Prop := ∀ i j, i < k → js[i]? = some j → j.okB = true ∧ ∀ h x, h < i → js[h]? = some x → x.id ≠ j.id
theorem qAt_succ {js : List J} {k : Nat} {j : J} (h : qAt js k) (hj : js[k]? = some j) (hok : j.okB = true) (hid : ∀ i x, i < k → js[i]? = some x → x.id ≠ j.id) : qAt js (k + 1) := by
  intro i x hi hx
  by_cases hik : i < k
  · exact h i x hik hx
  · have : i = k := by omega
    subst this
    rw [hj] at hx
    rw [← Option.some.inj hx]
    exact ⟨hok, hid⟩
theorem queue_len {js : List J} {n : Nat} (hn : js.length = n) (h : ¬ n ≤ 60) : queueB js = false := by
  unfold queueB; simp [hn, h]
theorem queue_job {js : List J} {k : Nat} {j : J} (hj : js[k]? = some j) (h : j.okB = false) : queueB js = false := by
  cases hh : queueB js with
  | false => rfl
  | true =>
    have := (queue_parts hh).2.1 j (List.mem_of_getElem? hj)
    rw [h] at this; cases this
theorem queue_dup {js : List J} {i k : Nat} {x j : J} (hik : i < k) (hx : js[i]? = some x) (hj : js[k]? = some j) (h : x.id = j.id) : queueB js = false := by
  cases hh : queueB js with
  | false => rfl
  | true =>
    have hd := (queue_parts hh).2.2
    unfold distJ at hd
    rw [List.pairwise_iff_getElem] at hd
    have hi := (List.getElem?_eq_some_iff.1 hx)
    have hk := (List.getElem?_eq_some_iff.1 hj)
    obtain ⟨hi1, hi2⟩ := hi
    obtain ⟨hk1, hk2⟩ := hk
    have := hd i k hi1 hk1 hik
    rw [hi2, hk2] at this
    exact absurd h this
theorem queue_all {js : List J} {n : Nat} (hn : js.length = n) (h : qAt js n) : queueB js = decide (n ≤ 60) := by
  have h1 : js.all J.okB = true := by
    rw [List.all_eq_true]
    intro j hj
    obtain ⟨i, hi, rfl⟩ := List.getElem_of_mem hj
    exact (h i _ (by omega) (List.getElem?_eq_getElem hi)).1
  have h2 : js.Pairwise fun a b => a.id ≠ b.id := by
    rw [List.pairwise_iff_getElem]
    intro i k hi hk hik
    exact (h k _ (by omega) (List.getElem?_eq_getElem hk)).2 i _ hik (List.getElem?_eq_getElem hi)
  unfold queueB
  rw [h1, hn, decide_eq_true h2, Bool.and_true, Bool.and_true]
theorem Rd.takeJ {w : World} {A : Option Addr} {n : Nat} {js : List J} (h : Rd w A n 11 (jflat js)) {k : Nat} (hk : k ≤ n) : Rd w A k 11 (jflat (js.take k)) := by
  have hl := h.jlen
  refine ⟨by rw [jflat_len]; simp; omega, fun h0 => ?_⟩
  obtain ⟨g, rfl, hc⟩ := h.2 (by omega)
  refine ⟨g, rfl, fun i u hu => hc i u ?_⟩
  have e : jflat js = jflat (js.take k) ++ jflat (js.drop k) := by
    unfold jflat; rw [← List.flatMap_append, List.take_append_drop]
  rw [e, List.getElem?_append_left (List.getElem?_eq_some_iff.1 hu).1]
  exact hu
theorem any_id {js : List J} {k : Nat} {x : Int} (h : ((js.take k).any fun q => q.id == x) = false) : ∀ i y, i < k → js[i]? = some y → y.id ≠ x := by
  intro i y hi hy e
  rw [List.any_eq_false] at h
  have hm : y ∈ js.take k := List.mem_iff_getElem?.2 ⟨i, by rw [List.getElem?_take, if_pos hi]; exact hy⟩
  exact h y hm (by simp [e])
theorem any_dup {js : List J} {k : Nat} {x : Int} (h : ((js.take k).any fun q => q.id == x) = true) : ∃ i y, i < k ∧ js[i]? = some y ∧ y.id = x := by
  rw [List.any_eq_true] at h
  obtain ⟨y, hy, e⟩ := h
  obtain ⟨i, hi⟩ := List.mem_iff_getElem?.1 hy
  rw [List.getElem?_take] at hi
  split at hi
  · exact ⟨i, y, by assumption, hi, by simpa using e⟩
  · cases hi

set_option maxHeartbeats 8000000 in
theorem queueOk_any (A : Option Addr) (n c : Nat) (js : List J) (w : World) (hn : n ≤ 1048576) (hr : Rd w A n 11 (jflat js)) (hl : ∀ g, A = some ⟨g, 0, none⟩ → g < w.heap.size) (hnc : n ≤ c) (hc9 : c ≤ 9223372036854775807) :
    Calls Try.prog 42 #[.slice A n c] w fun e w' => e = .returned (.bool (queueB js)) ∧ Below w.heap.size w w' := by
  have eg : ∀ args w, (callFunc 114 args).run Try.prog w = .ok (.enter 114 args) w := enters_of Try.func114 (by kernel_rfl) rfl
  have EG := Lib.hid eg
  clear eg
  have hpl := hr.jlen
  have hm : n ≤ 9223372036854775807 := by omega
  have HN := Lib.hid hn
  have HR := Lib.hid hr
  have HL := Lib.hid hl
  have HPL := Lib.hid hpl
  clear hn hr hl hpl
  go_enter Try.func42, Try.ntmps42
  go_wp2
  go_loopw [7] (fun i wr => ∃ k : Nat, k ≤ n ∧ i = .int .i64 k ∧ Below w.heap.size w wr ∧ Hid (qAt js k)) (fun i _ => n - (intOf i).toNat)
  case atStart => exact ⟨0, Nat.zero_le _, rfl, Below.refl _ _, Lib.hid fun i j hi => absurd hi (by omega)⟩
  case round =>
    obtain ⟨k, hk, rfl, hbw, hall⟩ := hrel
    by_cases hlt : k < n
    · have hlt' : (k : Int) < n := by omega
      have hkc : (k : Int) ≤ c := by omega
      have hkc2 : k ≤ c := by omega
      have hk0 : (0 : Int) ≤ (k : Int) := by omega
      obtain ⟨g, q, rfl, hq, c0, c1, c2, c3, c4, c5, c6, c7, c8, c9, c10⟩ := HR.out.j hlt
      have hg := HL.out g rfl
      have C0 := (hbw.cell (p := ⟨g, k * 11, none⟩) hg).trans c0
      have C1 := (hbw.cell (p := ⟨g, k * 11 + 1, none⟩) hg).trans c1
      have C2 := (hbw.cell (p := ⟨g, k * 11 + 2, none⟩) hg).trans c2
      have C3 := (hbw.cell (p := ⟨g, k * 11 + 3, none⟩) hg).trans c3
      have C4 := (hbw.cell (p := ⟨g, k * 11 + 4, none⟩) hg).trans c4
      have C5 := (hbw.cell (p := ⟨g, k * 11 + 5, none⟩) hg).trans c5
      have C6 := (hbw.cell (p := ⟨g, k * 11 + 6, none⟩) hg).trans c6
      have C7 := (hbw.cell (p := ⟨g, k * 11 + 7, none⟩) hg).trans c7
      have C8 := (hbw.cell (p := ⟨g, k * 11 + 8, none⟩) hg).trans c8
      have C9 := (hbw.cell (p := ⟨g, k * 11 + 9, none⟩) hg).trans c9
      have C10 := (hbw.cell (p := ⟨g, k * 11 + 10, none⟩) hg).trans c10
      have hgr : g < wr.heap.size := Nat.lt_of_lt_of_le hg hbw.size
      have HQ := Lib.hid hq
      have HB := Lib.hid hbw
      clear hq hbw c0 c1 c2 c3 c4 c5 c6 c7 c8 c9 c10
      go_wp2_with fail
      refine (jobOk_raw q _).mono ?_
      rintro e w1 ⟨rfl, hb1⟩
      have hs1 := hb1.size
      (try simp at hs1)
      have hx1 := fun o => hb1.cell (p := ⟨wr.heap.size, o, none⟩) (by simp)
      have hxs : wr.heap.size < w1.heap.size := by omega
      have hxg := fun o => hb1.cell (p := ⟨g, o, none⟩) (by first | omega | (simp <;> omega))
      have HB1 := Lib.hid (show Below wr.heap.size wr w1 from (by repeat (first | exact Below.refl _ _ | assumption | (refine bstep ?_ (below_drewN _ _)) | exact bstep (by assumption) (by assumption) | (refine bstep ?_ (below_alloc _ _)) | (refine bstep ?_ (by assumption)) | (refine Below.setCell ?_ (by simp <;> omega) _) | refine Below.drew ?_)))
      cases hok : q.okB
      · have HF := Lib.hid (queue_job HQ.out hok)
        clear hok
        go_wp2
        go_ret
        exact ⟨ret_bool HF.out.symm, bstep HB.out HB1.out⟩
      · have HOK := Lib.hid hok
        clear hok
        go_wp2_with fail
        refine (containsFuncJ_any (some ⟨g, 0, none⟩) k c (js.take k) 114 #[.pointer (some ⟨wr.heap.size, 0, none⟩)] (fun x => x.id == q.id) _ (by have := HN.out; omega) (((HR.out.below HL.out HB.out).below (lt_below HL.out HB.out) HB1.out).takeJ (by omega)) (lt_below (lt_below HL.out HB.out) HB1.out) EG.out (fun x W hW => queueClos_any x wr.heap.size q.id W ((hW.cell (p := ⟨wr.heap.size, 0, none⟩) hxs).trans ((hx1 0).trans (by simp [go_sem]))) (Nat.lt_of_lt_of_le hxs hW.size))).mono ?_
        rintro e w2 ⟨rfl, hb2⟩
        have HB2 := Lib.hid (bstep HB1.out hb2)
        cases hany : (js.take k).any fun x => x.id == q.id
        · have HA := Lib.hid (any_id hany)
          clear hany
          go_wp2
          go_roundw
          case rel => exact ⟨k + 1, by omega, by go_num, bstep HB.out HB2.out, Lib.hid (qAt_succ hall.out HQ.out HOK.out HA.out)⟩
          case measure => simp [intOf]; omega
        · have HF : Hid (queueB js = false) := Lib.hid (by
            obtain ⟨i, y, hi, hy, he⟩ := any_dup hany
            exact queue_dup hi hy HQ.out he)
          clear hany
          go_wp2
          go_ret
          exact ⟨ret_bool HF.out.symm, bstep HB.out HB2.out⟩
    · have hk9 : k = n := by omega
      subst hk9
      have HF := Lib.hid (queue_all HPL.out hall.out)
      clear hall
      go_wp2
      go_ret
      exact ⟨ret_bool (by rw [HF.out]; exact decide_eq_decide.2 (by omega)), hbw⟩

set_option maxHeartbeats 8000000 in
theorem squeueOk_any (A : Option Addr) (n c : Nat) (js : List J) (w : World) (hn : n ≤ 1048576) (hr : Rd w A n 11 (jflat js)) (hl : ∀ g, A = some ⟨g, 0, none⟩ → g < w.heap.size) :
    Calls Try.prog 40 #[.slice A n c] w fun e w' => e = .returned (.bool (queueB js)) ∧ Below w.heap.size w w' := by
  have hpl := hr.jlen
  have hm : n ≤ 9223372036854775807 := by omega
  have HN := Lib.hid hn
  have HR := Lib.hid hr
  have HL := Lib.hid hl
  have HPL := Lib.hid hpl
  clear hn hr hl hpl
  by_cases h60 : (n : Int) ≤ 60
  · go_enter Try.func40, Try.ntmps40
    go_wp2
    go_loopw [11] (fun i wr => ∃ k : Nat, k ≤ n ∧ i = .int .i64 k ∧ Below w.heap.size w wr ∧ Hid (qAt js k)) (fun i _ => n - (intOf i).toNat)
    case atStart => exact ⟨0, Nat.zero_le _, rfl, Below.refl _ _, Lib.hid fun i j hi => absurd hi (by omega)⟩
    case round =>
    obtain ⟨k, hk, rfl, hbw, hall⟩ := hrel
    obtain ⟨wo, rfl⟩ : ∃ wo : World, wo = wr := ⟨_, rfl⟩
    by_cases hlt : k < n
    · have hlt' : (k : Int) < n := by omega
      obtain ⟨g, q, rfl, hq, c0, c1, c2, c3, c4, c5, c6, c7, c8, c9, c10⟩ := HR.out.j hlt
      have hg := HL.out g rfl
      have C0 := (hbw.cell (p := ⟨g, k * 11, none⟩) hg).trans c0
      have C1 := (hbw.cell (p := ⟨g, k * 11 + 1, none⟩) hg).trans c1
      have C2 := (hbw.cell (p := ⟨g, k * 11 + 2, none⟩) hg).trans c2
      have C3 := (hbw.cell (p := ⟨g, k * 11 + 3, none⟩) hg).trans c3
      have C4 := (hbw.cell (p := ⟨g, k * 11 + 4, none⟩) hg).trans c4
      have C5 := (hbw.cell (p := ⟨g, k * 11 + 5, none⟩) hg).trans c5
      have C6 := (hbw.cell (p := ⟨g, k * 11 + 6, none⟩) hg).trans c6
      have C7 := (hbw.cell (p := ⟨g, k * 11 + 7, none⟩) hg).trans c7
      have C8 := (hbw.cell (p := ⟨g, k * 11 + 8, none⟩) hg).trans c8
      have C9 := (hbw.cell (p := ⟨g, k * 11 + 9, none⟩) hg).trans c9
      have C10 := (hbw.cell (p := ⟨g, k * 11 + 10, none⟩) hg).trans c10
      have hgr : g < wo.heap.size := Nat.lt_of_lt_of_le hg hbw.size
      have HQ := Lib.hid hq
      have HB := Lib.hid hbw
      clear hq hbw c0 c1 c2 c3 c4 c5 c6 c7 c8 c9 c10
      go_wp2_with fail
      refine (sjobOk_raw q _).mono ?_
      rintro e w1 ⟨rfl, hb1⟩
      have hs1 := hb1.size
      (try simp at hs1)
      have hx1 := fun o => hb1.cell (p := ⟨wo.heap.size, o, none⟩) (by simp)
      have hxs : wo.heap.size < w1.heap.size := by omega
      have hxg := fun o => hb1.cell (p := ⟨g, o, none⟩) (by first | omega | (simp <;> omega))
      have HB1 := Lib.hid (show Below wo.heap.size wo w1 from (by repeat (first | exact Below.refl _ _ | assumption | (refine bstep ?_ (below_drewN _ _)) | exact bstep (by assumption) (by assumption) | (refine bstep ?_ (below_alloc _ _)) | (refine bstep ?_ (by assumption)) | (refine Below.setCell ?_ (by simp <;> omega) _) | refine Below.drew ?_)))
      cases hok : q.okB
      · have HF := Lib.hid (queue_job HQ.out hok)
        clear hok
        go_wp2
        go_ret
        exact ⟨ret_bool HF.out.symm, bstep HB.out HB1.out⟩
      · have HOK := Lib.hid hok
        clear hok
        have hxq := (hx1 0).trans (show _ = some (Value.int .i64 q.id) by simp [go_sem])
        have HXQ := Lib.hid hxq
        have HXS := Lib.hid hxs
        have HGS : Hid (g < w1.heap.size) := Lib.hid (by omega)
        clear hx1 hxg hxq
        go_wp2
        go_loopw [5] (fun v wi => ∃ i : Nat, i ≤ k ∧ v = .int .i64 i ∧ Below w1.heap.size w1 wi ∧ Hid (∀ h x, h < i → js[h]? = some x → x.id ≠ q.id)) (fun v _ => k - (intOf v).toNat)
        case atStart => exact ⟨0, Nat.zero_le _, rfl, Below.refl _ _, Lib.hid fun i j hi => absurd hi (by omega)⟩
        case round =>
        obtain ⟨i, hik, rfl, hbi, hin⟩ := hrel
        by_cases hlti : i < k
        · have hlti' : (i : Int) < k := by omega
          have hltn : (i : Int) < n := by omega
          have hi0 : (0 : Int) ≤ (i : Int) := by omega
          obtain ⟨g2, q2, hg2, hq2, d0, _⟩ := HR.out.j (show i < n by omega)
          obtain rfl : g = g2 := by simpa using hg2
          have HB9 := Lib.hid (bstep (bstep HB.out HB1.out) hbi)
          have E0 := (HB9.out.cell (p := ⟨g, i * 11, none⟩) hg).trans d0
          have E1 := (hbi.cell (p := ⟨wo.heap.size, 0, none⟩) HXS.out).trans HXQ.out
          have HQ2 := Lib.hid hq2
          have HBI := Lib.hid hbi
          clear hg2 hq2 d0 hbi
          go_wp2
          go_quiet (fail)
          by_cases he : q2.id = q.id
          · have HF := Lib.hid (queue_dup hlti HQ2.out HQ.out he)
            have he' : (q2.id == q.id) = true := by simp [he]
            clear he
            go_wp2
            go_ret
            exact ⟨ret_bool HF.out.symm, by have := HB9.out; repeat (first | exact Below.refl _ _ | assumption | (refine bstep ?_ (below_drewN _ _)) | exact bstep (by assumption) (by assumption) | (refine bstep ?_ (below_alloc _ _)) | (refine bstep ?_ (by assumption)) | (refine Below.setCell ?_ (by simp <;> omega) _) | refine Below.drew ?_)⟩
          · have he' : (q2.id == q.id) = false := by simp [he]
            have HE := Lib.hid he
            clear he
            go_wp2
            go_roundw
            case rel =>
              refine ⟨i + 1, by omega, by go_num, by have := HBI.out; repeat (first | exact Below.refl _ _ | assumption | (refine bstep ?_ (below_drewN _ _)) | exact bstep (by assumption) (by assumption) | (refine bstep ?_ (below_alloc _ _)) | (refine bstep ?_ (by assumption)) | (refine Below.setCell ?_ (by simp <;> omega) _) | refine Below.drew ?_), Lib.hid fun h x hh hx => ?_⟩
              by_cases hhi : h < i
              · exact hin.out h x hhi hx
              · have : h = i := by omega
                subst this
                rw [HQ2.out] at hx
                rw [← Option.some.inj hx]; exact HE.out
            case measure => simp [intOf]; omega
        · have hik9 : i = k := by omega
          subst hik9
          have HA := Lib.hid (qAt_succ hall.out HQ.out HOK.out hin.out)
          have HBI := Lib.hid hbi
          clear hbi
          go_wp2
          go_roundw
          case rel => exact ⟨i + 1, by omega, by go_num, bstep (bstep HB.out HB1.out) HBI.out, Lib.hid HA.out⟩
          case measure => simp [intOf]; omega
    · have hk9 : k = n := by omega
      subst hk9
      have HF := Lib.hid ((queue_all HPL.out hall.out).trans (decide_eq_true (by omega)))
      go_wp2
      go_ret
      exact ⟨ret_bool HF.out.symm, hbw⟩
  · have HF := Lib.hid (queue_len HPL.out (by omega))
    have h60' : (60 : Int) < n := by omega
    clear h60
    go_enter Try.func40, Try.ntmps40
    go_wp2
    go_ret
    exact ⟨ret_bool HF.out.symm, Below.refl _ _⟩
end Go.Proofs.Ytjnfdcojccgfoaa
