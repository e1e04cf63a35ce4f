/-
  A job sought by a predicate.
-/
import Derived.Test.YtjnfdcojccgfoaaJb
namespace Go.Proofs.Ytjnfdcojccgfoaa
set_option linter.unusedSimpArgs false
set_option linter.unusedVariables false
set_option linter.unnecessarySimpa false
open Go.RowKit
def idxJ (p : J → Bool) (js : List J) : Int := match js.findIdx? p with
  | some i => (i : Int)
  | none => -1
theorem idxJ_hit {p : J → Bool} {js : List J} {k : Nat} {j : J} (hj : js[k]? = some j) (hp : p j = true) (h : ∀ i x, i < k → js[i]? = some x → p x = false) : idxJ p js = k := by
  have hk : k < js.length := (List.getElem?_eq_some_iff.1 hj).1
  have : js.findIdx? p = some k := by
    rw [List.findIdx?_eq_some_iff_getElem]
    refine ⟨hk, ?_, fun i hi => ?_⟩
    · have := (List.getElem?_eq_some_iff.1 hj).2
      rw [this]; exact hp
    · have := h i js[i] hi (List.getElem?_eq_getElem (by omega))
      simp [this]
  unfold idxJ; rw [this]
theorem idxJ_miss {p : J → Bool} {js : List J} {n : Nat} (hn : js.length = n) (h : ∀ i x, i < n → js[i]? = some x → p x = false) : idxJ p js = -1 := by
  have : js.findIdx? p = none := by
    rw [List.findIdx?_eq_none_iff]
    intro x hx
    obtain ⟨i, hi, rfl⟩ := List.getElem_of_mem hx
    exact h i _ (by omega) (List.getElem?_eq_getElem hi)
  unfold idxJ; rw [this]
theorem idxJ_any {p : J → Bool} {js : List J} : decide (0 ≤ idxJ p js) = js.any p := by
  unfold idxJ
  cases h : js.findIdx? p with
  | none =>
    rw [List.findIdx?_eq_none_iff] at h
    have : js.any p = false := by rw [List.any_eq_false]; intro x hx; simp [h x hx]
    rw [this]; simp
  | some i =>
    have hh := h
    rw [List.findIdx?_eq_some_iff_getElem] at hh
    obtain ⟨hi, hp, _⟩ := hh
    have : js.any p = true := List.any_eq_true.2 ⟨_, List.getElem_mem hi, hp⟩
    rw [this]; simp

set_option maxHeartbeats 4000000 in
theorem indexFuncJ_any (A : Option Addr) (n c : Nat) (js : List J) (g0 : Nat) (lb : Array Value) (p : J → Bool) (w : World) (hn : n ≤ 1048577) (hr : Rd w A n 11 (jflat js)) (hl : ∀ g, A = some ⟨g, 0, none⟩ → g < w.heap.size)
    (eg : ∀ args w, (callFunc g0 args).run Try.prog w = .ok (.enter g0 args) w)
    (hp : ∀ (q : J) (W : World), Below w.heap.size w W → Calls Try.prog g0 (#[.agg #[.int .i64 q.id, .int .i64 q.pr, .int .i64 q.nn, .int .i64 q.na, .int .i64 q.nb, .int .i64 q.nc, .int .i64 q.la, .int .i64 q.lb, .int .i64 q.lc, .int .i64 q.wl, .int .i64 q.lv]] ++ lb) W fun e W' => e = .returned (.bool (p q)) ∧ Below W.heap.size W W') :
    Calls Try.prog 164 #[.slice A n c, .func (.func g0) #[] lb] w fun e w' => e = .returned (.int .i64 (idxJ p js)) ∧ Below w.heap.size w w' := by
  have hm : n ≤ 9223372036854775807 := by omega
  have hpl := hr.jlen
  have HR := Lib.hid hr
  have HL := Lib.hid hl
  have HP := Lib.hid hp
  have HPL := Lib.hid hpl
  clear hn hr hl hp hpl
  go_enter Try.func164, Try.ntmps164
  go_wp2
  go_loopw [5, 8] (fun _ i wr => ∃ k : Nat, k ≤ n ∧ i = .int .i64 k ∧ Below w.heap.size w wr ∧ Hid (∀ i x, i < k → js[i]? = some x → p x = false)) (fun _ i _ => n - (intOf i).toNat)
  case atStart => exact ⟨0, Nat.zero_le _, rfl, Below.refl _ _, Lib.hid fun i x hi => absurd hi (by omega)⟩
  case round =>
    obtain ⟨k, hk, rfl, hbw, hall⟩ := hrel
    by_cases hlt : k < n
    · have hlt' : (k : Int) < n := by omega
      obtain ⟨g, q, rfl, hq, c0, c1, c2, c3, c4, c5, c6, c7, c8, c9, c10⟩ := HR.out.j hlt
      have hg := HL.out g rfl
      have C0 := (hbw.cell (p := ⟨g, k * 11, none⟩) hg).trans c0
      have C1 := (hbw.cell (p := ⟨g, k * 11 + 1, none⟩) hg).trans c1
      have C2 := (hbw.cell (p := ⟨g, k * 11 + 2, none⟩) hg).trans c2
      have C3 := (hbw.cell (p := ⟨g, k * 11 + 3, none⟩) hg).trans c3
      have C4 := (hbw.cell (p := ⟨g, k * 11 + 4, none⟩) hg).trans c4
      have C5 := (hbw.cell (p := ⟨g, k * 11 + 5, none⟩) hg).trans c5
      have C6 := (hbw.cell (p := ⟨g, k * 11 + 6, none⟩) hg).trans c6
      have C7 := (hbw.cell (p := ⟨g, k * 11 + 7, none⟩) hg).trans c7
      have C8 := (hbw.cell (p := ⟨g, k * 11 + 8, none⟩) hg).trans c8
      have C9 := (hbw.cell (p := ⟨g, k * 11 + 9, none⟩) hg).trans c9
      have C10 := (hbw.cell (p := ⟨g, k * 11 + 10, none⟩) hg).trans c10
      have hcall := HP.out q wr hbw
      have HC := Lib.hid hcall
      have HQ := Lib.hid hq
      have HB := Lib.hid hbw
      clear hcall hq hbw c0 c1 c2 c3 c4 c5 c6 c7 c8 c9 c10
      go_wp2_with fail
      refine (HC.out).mono ?_
      rintro e w1 ⟨rfl, hb1⟩
      cases hpq : p q
      · have HPQ := Lib.hid hpq
        clear hpq
        go_wp2
        go_roundw
        case rel =>
          refine ⟨k + 1, by omega, by go_num, bstep HB.out hb1, Lib.hid fun i x hi hx => ?_⟩
          by_cases hik : i < k
          · exact hall.out i x hik hx
          · have : i = k := by omega
            subst this
            rw [HQ.out] at hx
            rw [← Option.some.inj hx]; exact HPQ.out
        case measure => simp [intOf]; omega
      · have HF := Lib.hid (idxJ_hit HQ.out hpq hall.out)
        clear hpq
        go_wp2
        go_ret
        exact ⟨ret_int HF.out.symm, bstep HB.out hb1⟩
    · have hk9 : k = n := by omega
      subst hk9
      have HF := Lib.hid (idxJ_miss HPL.out hall.out)
      go_wp2
      go_ret
      exact ⟨ret_int HF.out.symm, hbw⟩

set_option maxHeartbeats 4000000 in
theorem containsFuncJ_any (A : Option Addr) (n c : Nat) (js : List J) (g0 : Nat) (lb : Array Value) (p : J → Bool) (w : World) (hn : n ≤ 1048577) (hr : Rd w A n 11 (jflat js)) (hl : ∀ g, A = some ⟨g, 0, none⟩ → g < w.heap.size)
    (eg : ∀ args w, (callFunc g0 args).run Try.prog w = .ok (.enter g0 args) w)
    (hp : ∀ (q : J) (W : World), Below w.heap.size w W → Calls Try.prog g0 (#[.agg #[.int .i64 q.id, .int .i64 q.pr, .int .i64 q.nn, .int .i64 q.na, .int .i64 q.nb, .int .i64 q.nc, .int .i64 q.la, .int .i64 q.lb, .int .i64 q.lc, .int .i64 q.wl, .int .i64 q.lv]] ++ lb) W fun e W' => e = .returned (.bool (p q)) ∧ Below W.heap.size W W') :
    Calls Try.prog 113 #[.slice A n c, .func (.func g0) #[] lb] w fun e w' => e = .returned (.bool (js.any p)) ∧ Below w.heap.size w w' := by
  have HN := Lib.hid hn
  have HR := Lib.hid hr
  have HL := Lib.hid hl
  have HP := Lib.hid hp
  have HI := Lib.hid (idxJ_any (p := p) (js := js))
  clear hn hr hl hp
  go_enter Try.func113, Try.ntmps113
  go_wp2_with fail
  refine (indexFuncJ_any A n c js g0 lb p _ HN.out HR.out HL.out eg HP.out).mono ?_
  rintro e w1 ⟨rfl, hb1⟩
  go_wp2
  go_ret
  exact ⟨ret_bool HI.out, hb1⟩

set_option maxHeartbeats 1000000 in
theorem queueClos_any (j : J) (b : Nat) (x : Int) (W : World) (hc : W.cell? ⟨b, 0, none⟩ = some (.int .i64 x)) (hb : b < W.heap.size) :
    Calls Try.prog 114 #[.agg #[.int .i64 j.id, .int .i64 j.pr, .int .i64 j.nn, .int .i64 j.na, .int .i64 j.nb, .int .i64 j.nc, .int .i64 j.la, .int .i64 j.lb, .int .i64 j.lc, .int .i64 j.wl, .int .i64 j.lv], .pointer (some ⟨b, 0, none⟩)] W fun e W' => e = .returned (.bool (j.id == x)) ∧ Below W.heap.size W W' := by
  go_enter Try.func114, Try.ntmps114
  go_wp2
  go_ret
  exact ⟨rfl, below_alloc _ _⟩
end Go.Proofs.Ytjnfdcojccgfoaa
