import Derived.Test.YtnphjhbfpoekpaaGreatHePg
import Derived.Test.YtnphjhbfpoekpaaGreatA11Pg
import Derived.Test.YtnphjhbfpoekpaaGreatHaPg
import Derived.Test.YtnphjhbfpoekpaaGreatLr0Pg
import Derived.Shelf.Abstract
namespace Go.Proofs.YtnphjhbfpoekpaaGreat
set_option linter.unusedSimpArgs false
set_option linter.unusedVariables false
set_option linter.unnecessarySimpa false
open Go.RowKit
structure RdH (w : World) (A : Option Addr) (n : Nat) (ss : List Value) (hs : List Hd) : Prop where
 len : hs.length = n
 slen : ss.length = n
 rl : ∀ g, A = some ⟨g, 0, none⟩ → g < w.heap.size
 rd : Rd w A n 3 (hcells hs ss)
 each : ∀ (k : Nat) x p, ss[k]? = some x → hs[k]? = some p → ∃ X d, x = .slice X p.nd.length d ∧ p.nd.length ≤ 1048576 ∧ p.nd.length ≤ d ∧ d ≤ 9223372036854775807 ∧ Rd w X p.nd.length 1 (ints p.nd) ∧ ∀ g, X = some ⟨g, 0, none⟩ → g < w.heap.size
theorem RdH.bel {w w' : World} {A : Option Addr} {n : Nat} {ss : List Value} {hs : List Hd} (h : RdH w A n ss hs) (hb : Below w.heap.size w w') : RdH w' A n ss hs :=
 ⟨h.len, h.slen, fun g hg => Nat.lt_of_lt_of_le (h.rl g hg) hb.size, h.rd.below h.rl hb, fun k x p a b => by
  obtain ⟨X, d, h1, h2, h3, h4, h5, h6⟩ := h.each k x p a b
  exact ⟨X, d, h1, h2, h3, h4, h5.below h6 hb, zAi h6 hb⟩⟩
theorem RdH.row {w : World} {A : Option Addr} {n : Nat} {ss : List Value} {hs : List Hd} (h : RdH w A n ss hs) {k : Nat} (hk : k < n) :
  ∃ g p X d, A = some ⟨g, 0, none⟩ ∧ hs[k]? = some p ∧ ss[k]? = some (.slice X p.nd.length d) ∧ p.nd.length ≤ 1048576 ∧ p.nd.length ≤ d ∧ d ≤ 9223372036854775807 ∧ Rd w X p.nd.length 1 (ints p.nd) ∧ (∀ g, X = some ⟨g, 0, none⟩ → g < w.heap.size) ∧ g < w.heap.size ∧
   w.cell? ⟨g, k * 3, none⟩ = some (.int .i64 p.id) ∧ w.cell? ⟨g, k * 3 + 1, none⟩ = some (.int .i64 p.at_) ∧ w.cell? ⟨g, k * 3 + 2, none⟩ = some (.slice X p.nd.length d) := by
 obtain ⟨p, hp⟩ : ∃ p, hs[k]? = some p := ⟨_, zgh (by have := h.len; omega)⟩
 obtain ⟨x, hx⟩ : ∃ x, ss[k]? = some x := ⟨_, zgh (by have := h.slen; omega)⟩
 obtain ⟨X, d, rfl, h2, h3, h4, h5, h6⟩ := h.each k x p hx hp
 obtain ⟨g, hg, hc⟩ := h.rd.2 (by omega)
 obtain ⟨c0, c1, c2⟩ := hcells_get hp hx
 exact ⟨g, p, X, d, hg, hp, hx, h2, h3, h4, h5, h6, h.rl g hg, hc _ _ c0, hc _ _ c1, hc _ _ c2⟩
theorem hcells_take : ∀ {hs : List Hd} {ss : List Value} (k : Nat), (hcells hs ss).take (k * 3) = hcells (hs.take k) (ss.take k)
 | _, _, 0 => by simp [hcells]
 | [], ss, k + 1 => by simp [hcells]
 | h :: hs, [], k + 1 => by simp [hcells]
 | h :: hs, x :: ss, k + 1 => by
  have e : (k + 1) * 3 = k * 3 + 1 + 1 + 1 := by omega
  rw [e]
  simp [hcells, hcells_take (hs := hs) (ss := ss) k]
theorem RdH.take {w : World} {A : Option Addr} {n : Nat} {ss : List Value} {hs : List Hd} (h : RdH w A n ss hs) {k : Nat} (hk : k ≤ n) : RdH w A k (ss.take k) (hs.take k) := by
 have h1 := h.len
 have h2 := h.slen
 refine ⟨by rw [List.length_take]; omega, by rw [List.length_take]; omega, h.rl, ⟨?_, fun h0 => ?_⟩, fun i x p a b => ?_⟩
 ·rw [← hcells_take, List.length_take, h.rd.1]; omega
 ·obtain ⟨g, hg, hc⟩ := h.rd.2 (by omega)
  refine ⟨g, hg, fun i u hu => hc i u ?_⟩
  rw [← hcells_take, List.getElem?_take] at hu
  split at hu
  ·exact hu
  ·cases hu
 ·rw [List.getElem?_take] at a b
  by_cases hik : i < k
  ·rw [if_pos hik] at a b
   exact h.each i x p a b
  ·rw [if_neg hik] at a
   cases a
theorem OwnH.rd {w : World} {lo : Nat} {A : Option Addr} {n c : Nat} {ss : List Value} {hs : List Hd} (h : OwnH w lo (.slice A n c) n ss hs) : RdH w A n ss hs := by
 refine ⟨h.len, h.slen, zAz h.own, zAn h.own, fun k x p a b => ?_⟩
 obtain ⟨h1, h2⟩ := h.each k x p a b
 obtain ⟨X, d, rfl, -⟩ := zAq h2
 exact ⟨X, d, rfl, h1, (own_cap9 h2).1, (own_cap9 h2).2, zAn h2, zAz h2⟩
def idxH (p : Hd → Bool) (hs : List Hd) : Int := match hs.findIdx? p with
 | some i => (i : Int)
 | none => -1
theorem idxH_hit {p : Hd → Bool} {hs : List Hd} {k : Nat} {j : Hd} (hj : hs[k]? = some j) (hp : p j = true) (h : ∀ i x, i < k → hs[i]? = some x → p x = false) : idxH p hs = k := by
 have hk : k < hs.length := (List.getElem?_eq_some_iff.1 hj).1
 have : hs.findIdx? p = some k := by
  rw [List.findIdx?_eq_some_iff_getElem]
  refine ⟨hk, ?_, fun i hi => ?_⟩
  ·have := (List.getElem?_eq_some_iff.1 hj).2
   rw [this]; exact hp
  ·have := h i hs[i] hi (zgh (by omega))
   simp [this]
 unfold idxH; rw [this]
theorem idxH_miss {p : Hd → Bool} {hs : List Hd} {n : Nat} (hn : hs.length = n) (h : ∀ i x, i < n → hs[i]? = some x → p x = false) : idxH p hs = -1 := by
 have : hs.findIdx? p = none := by
  rw [List.findIdx?_eq_none_iff]
  intro x hx
  obtain ⟨i, hi, rfl⟩ := List.getElem_of_mem hx
  exact h i _ (by omega) (zgh hi)
 unfold idxH; rw [this]
theorem idxH_any {p : Hd → Bool} {hs : List Hd} : decide (0 ≤ idxH p hs) = hs.any p := by
 unfold idxH
 cases h : hs.findIdx? p with
 | none =>
  rw [List.findIdx?_eq_none_iff] at h
  have : hs.any p = false := by rw [List.any_eq_false]; intro x hx; simp [h x hx]
  rw [this]; simp
 | some i =>
  have hh := h
  rw [List.findIdx?_eq_some_iff_getElem] at hh
  obtain ⟨hi, hp, _⟩ := hh
  have : hs.any p = true := List.any_eq_true.2 ⟨_, List.getElem_mem hi, hp⟩
  rw [this]; simp
set_option maxHeartbeats 4000000 in
theorem indexFuncH_any (A : Option Addr) (n c : Nat) (ss : List Value) (hs : List Hd) (g0 : Nat) (lb : Array Value) (p : Hd → Bool) (w : World) (hn : n ≤ 1048577) (hr : RdH w A n ss hs)
  (eg : ∀ args w, (callFunc g0 args).run Tryz.prog w = .ok (.enter g0 args) w)
  (hp : ∀ (q : Hd) (x : Value) (W : World), Below w.heap.size w W → Calls Tryz.prog g0 (#[.agg #[.int .i64 q.id, .int .i64 q.at_, x]] ++ lb) W fun e W' => e = .returned (.bool (p q)) ∧ Below W.heap.size W W') :
  Calls Tryz.prog 154 #[.slice A n c, .func (.func g0) #[] lb] w fun e w' => e = .returned (.int .i64 (idxH p hs)) ∧ Below w.heap.size w w' := by
 have hm : n ≤ 9223372036854775807 := by omega
 have hpl := hr.len
 have HR := Lib.hid hr
 have HP := Lib.hid hp
 have HPL := Lib.hid hpl
 clear hn hr hp hpl
 go_enter Tryz.func154, Tryz.ntmps154
 go_wp2
 go_loopw [5, 8] (fun _ i wr => ∃ k : Nat, k ≤ n ∧ i = .int .i64 k ∧ Below w.heap.size w wr ∧ Hid (∀ i x, i < k → hs[i]? = some x → p x = false)) (fun _ i _ => n - (intOf i).toNat)
 case atStart => exact ⟨0, Nat.zero_le _, rfl, Below.refl _ _, Lib.hid fun i x hi => absurd hi (by omega)⟩
 case round =>
  obtain ⟨k, hk, rfl, hbw, hall⟩ := hrel
  by_cases hlt : k < n
  ·have hlt' : (k : Int) < n := by omega
   obtain ⟨g, q, X, d, rfl, hq, hx, l1, l2, l3, rd, rl, hg, c0, c1, c2⟩ := HR.out.row hlt
   have C0 := (hbw.cell (p := ⟨g, k * 3, none⟩) hg).trans c0
   have C1 := (hbw.cell (p := ⟨g, k * 3 + 1, none⟩) hg).trans c1
   have C2 := (hbw.cell (p := ⟨g, k * 3 + 2, none⟩) hg).trans c2
   have hcall := HP.out q (.slice X q.nd.length d) wr hbw
   have HC := Lib.hid hcall
   have HQ := Lib.hid hq
   have HB := Lib.hid hbw
   clear hcall hq hbw c0 c1 c2 hx l1 l2 l3 rd rl
   go_wp2_with fail
   refine (HC.out).mono ?_
   rintro e w1 ⟨rfl, hb1⟩
   cases hpq : p q
   ·have HPQ := Lib.hid hpq
    clear hpq
    go_wp2
    go_roundw
    case rel =>
     refine ⟨k + 1, by omega, by go_num, zAc HB.out hb1, Lib.hid fun i x hi hx => ?_⟩
     by_cases hik : i < k
     ·exact hall.out i x hik hx
     ·have : i = k := by omega
      subst this
      rw [HQ.out] at hx
      rw [← Option.some.inj hx]; exact HPQ.out
    case measure => simp [intOf]; omega
   ·have HF := Lib.hid (idxH_hit HQ.out hpq hall.out)
    clear hpq
    go_wp2
    go_ret
    exact ⟨ret_int HF.out.symm, zAc HB.out hb1⟩
  ·have hk9 : k = n := by omega
   subst hk9
   have HF := Lib.hid (idxH_miss HPL.out hall.out)
   go_wp2
   go_ret
   exact ⟨ret_int HF.out.symm, hbw⟩
set_option maxHeartbeats 4000000 in
theorem containsFuncH_any (A : Option Addr) (n c : Nat) (ss : List Value) (hs : List Hd) (g0 : Nat) (lb : Array Value) (p : Hd → Bool) (w : World) (hn : n ≤ 1048577) (hr : RdH w A n ss hs)
  (eg : ∀ args w, (callFunc g0 args).run Tryz.prog w = .ok (.enter g0 args) w)
  (hp : ∀ (q : Hd) (x : Value) (W : World), Below w.heap.size w W → Calls Tryz.prog g0 (#[.agg #[.int .i64 q.id, .int .i64 q.at_, x]] ++ lb) W fun e W' => e = .returned (.bool (p q)) ∧ Below W.heap.size W W') :
  Calls Tryz.prog 65 #[.slice A n c, .func (.func g0) #[] lb] w fun e w' => e = .returned (.bool (hs.any p)) ∧ Below w.heap.size w w' := by
 have HN := Lib.hid hn
 have HR := Lib.hid hr
 have HP := Lib.hid hp
 have HI := Lib.hid (idxH_any (p := p) (hs := hs))
 clear hn hr hp
 go_enter Tryz.func65, Tryz.ntmps65
 go_wp2_with fail
 refine (indexFuncH_any A n c ss hs g0 lb p _ HN.out HR.out eg HP.out).mono ?_
 rintro e w1 ⟨rfl, hb1⟩
 go_wp2
 go_ret
 exact ⟨zAk HI.out, hb1⟩
set_option maxHeartbeats 1000000 in
theorem keptClos_any (q : Hd) (x : Value) (b : Nat) (v : Int) (W : World) (hc : W.cell? ⟨b, 0, none⟩ = some (.int .i64 v)) (hb : b < W.heap.size) :
  Calls Tryz.prog 66 #[.agg #[.int .i64 q.id, .int .i64 q.at_, x], .pointer (some ⟨b, 0, none⟩)] W fun e W' => e = .returned (.bool (q.id == v)) ∧ Below W.heap.size W W' := by
 go_enter Tryz.func66, Tryz.ntmps66
 go_wp2
 go_ret
 exact ⟨rfl, zAa _ _⟩
set_option maxHeartbeats 1000000 in
theorem jobAtClos_any (j : J) (b : Nat) (v : Int) (W : World) (hc : W.cell? ⟨b, 0, none⟩ = some (.int .i64 v)) (hb : b < W.heap.size) :
  Calls Tryz.prog 153 #[.agg #[.int .i64 j.id, .int .i64 j.pr, .int .i64 j.nn, .int .i64 j.na, .int .i64 j.nb, .int .i64 j.nc, .int .i64 j.la, .int .i64 j.lb, .int .i64 j.lc, .int .i64 j.wl, .int .i64 j.lv], .pointer (some ⟨b, 0, none⟩)] W fun e W' => e = .returned (.bool (j.id == v)) ∧ Below W.heap.size W W' := by
 go_enter Tryz.func153, Tryz.ntmps153
 go_wp2
 go_ret
 exact ⟨rfl, zAa _ _⟩
set_option maxHeartbeats 2000000 in
theorem jobAt_any (A : Option Addr) (n c : Nat) (js : List J) (id : Int) (w : World) (hn : n ≤ 1048577) (hr : Rd w A n 11 (jflat js)) (hl : ∀ g, A = some ⟨g, 0, none⟩ → g < w.heap.size) :
  Calls Tryz.prog 64 #[.slice A n c, .int .i64 id] w fun e w' => e = .returned (.int .i64 (idxJ (fun j => j.id == id) js)) ∧ Below w.heap.size w w' := by
 have eg : ∀ args w, (callFunc 153 args).run Tryz.prog w = .ok (.enter 153 args) w := enters_of Tryz.func153 (by kernel_rfl) rfl
 have EG := Lib.hid eg
 have HN := Lib.hid hn
 have HR := Lib.hid hr
 have HL := Lib.hid hl
 clear eg hn hr hl
 go_enter Tryz.func64, Tryz.ntmps64
 go_wp2_with fail
 refine (indexFuncJ_any A n c js 153 #[.pointer (some ⟨w.heap.size, 0, none⟩)] (fun j => j.id == id) _ HN.out (HR.out.below HL.out (by first | exact Below.refl _ _ | exact zAa _ _)) (zAi HL.out (by first | exact Below.refl _ _ | exact zAa _ _)) EG.out (fun x W hW => jobAtClos_any x w.heap.size id W ((hW.cell (p := ⟨w.heap.size, 0, none⟩) (by simp)).trans (by simp [go_sem])) (Nat.lt_of_lt_of_le (by simp) hW.size))).mono ?_
 rintro e w1 ⟨rfl, hb1⟩
 go_wp2
 go_ret
 exact ⟨rfl, zAc (by first | exact Below.refl _ _ | exact zAa _ _) hb1⟩
theorem idxJ_find {js : List J} {id : Int} : (idxJ (fun j => j.id == id) js < 0 ∧ findJ js id = none) ∨ ∃ (k : Nat) (j : J), idxJ (fun j => j.id == id) js = (k : Int) ∧ js[k]? = some j ∧ findJ js id = some j := by
 unfold idxJ findJ
 cases h : js.findIdx? (fun j => j.id == id) with
 | none =>
  rw [List.findIdx?_eq_none_iff] at h
  refine Or.inl ⟨by simp, List.find?_eq_none.2 fun x hx => ?_⟩
  have := h x hx
  simpa using this
 | some i =>
  rw [List.findIdx?_eq_some_iff_getElem] at h
  obtain ⟨hi, hp, hn⟩ := h
  refine Or.inr ⟨i, js[i], rfl, zgh hi, ?_⟩
  refine find_at (zgh hi) (by simpa using hp) (fun k x hk hx => ?_)
  have h1 := hn k hk
  rw [zgh (by omega)] at hx
  rw [← Option.some.inj hx]
  simpa using h1
end Go.Proofs.YtnphjhbfpoekpaaGreat
