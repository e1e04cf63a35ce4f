/-
  Sorting a queue (the program).
-/
import Derived.Test.YtpfcegjomdppmaaA11
import Derived.Test.YtpfcegjomdppmaaA7
import Derived.Test.YtpfcegjomdppmaaSi
import Derived.Laws.AppendOwnNone
import Derived.Sort.OwnSorted
namespace Go.Proofs.Ytpfcegjomdppmaa
set_option linter.unusedSimpArgs false
set_option linter.unusedVariables false
set_option linter.unnecessarySimpa false
open Go.RowKit Go.Sort Go.Shelf
/-- A valid job. -/
abbrev JA : Type := { j : J // j.okB = true }
def jobOne : J := ⟨1, 0, 1, 0, 0, 0, 0, 0, 0, 1, 0⟩
instance : Inhabited JA := ⟨⟨jobOne, by decide⟩⟩
def encJ (j : JA) : List Value := j.1.cells
def cfJ (a b : J) : Int := if a.pr = b.pr then a.id - b.id else b.pr - a.pr
theorem cf_iff (a b : J) : cfJ a b < 0 ↔ befJ a b := by
  unfold cfJ befJ
  split <;> constructor <;> intro h <;> omega
theorem ltJ (x y : JA) : ltOf (fun a b : JA => cfJ a.1 b.1) x y = decide (befJ x.1 y.1) := decide_eq_decide.2 (cf_iff x.1 y.1)
theorem swoJ : SWO (ltOf (fun a b : JA => cfJ a.1 b.1)) where
  irrefl x := by rw [ltJ, decide_eq_false (befJ_irrefl _)]
  trans x y z h1 h2 := by
    rw [ltJ] at *
    exact decide_eq_true (befJ_trans (of_decide_eq_true h1) (of_decide_eq_true h2))
  ntrans x y z h1 h2 := by
    rw [ltJ] at *
    have h1 := of_decide_eq_false h1
    have h2 := of_decide_eq_false h2
    apply decide_eq_false
    unfold befJ at *
    omega
theorem flatJ_eq (d : Array JA) : (flatK encJ 11 d).toList = jflat (d.toList.map (·.1)) := by
  apply List.ext_getElem?
  intro t
  have hlen : (jflat (d.toList.map (·.1))).length = d.size * 11 := by rw [jflat_len]; simp
  by_cases ht : t < d.size * 11
  · have hk : t / 11 < d.size := by omega
    have hi : t % 11 < 11 := by omega
    have hj : (d.toList.map (·.1))[t / 11]? = some (d[t / 11]!).1 := by
      rw [List.getElem?_map, Array.getElem?_toList, Array.getElem?_eq_getElem hk, getElem!_pos d (t / 11) hk]; rfl
    have h2 := jflat_get (d.toList.map (·.1)) (t / 11) (t % 11) _ hj hi
    rw [show t / 11 * 11 + t % 11 = t by omega] at h2
    rw [h2, Array.getElem?_toList, Array.getElem?_eq_getElem (by simpa using ht)]
    have h3 := get_flatK encJ 11 d t ht
    rw [getElem!_pos _ t (by simpa using ht)] at h3
    rw [h3]
    have h4 : t % 11 < (encJ d[t / 11]!).length := by show t % 11 < 11; exact hi
    rw [getElem!_pos (encJ d[t / 11]!) (t % 11) h4]
    exact (List.getElem?_eq_getElem h4).symm
  · rw [List.getElem?_eq_none (by simp; omega), List.getElem?_eq_none (by omega)]
theorem own_putK {w : World} {lo g cap n q size : Nat} {e : TypeId} {xs : List Value} {F : Array Value} {os : Array Obj} (h : w.ownsRow lo e size (.slice (some ⟨g, 0, none⟩) n cap) n xs) (hF : F.size = n * size) :
    (grow (putRow id (Sort.ahead w q) g 0 F) os).ownsRow lo e size (.slice (some ⟨g, 0, none⟩) n cap) n F.toList ∧ w.grownBy (grow (putRow id (Sort.ahead w q) g 0 F) os) (some g) := by
  refine ⟨?_, ⟨rfl, rfl, rfl, by simp, fun k hk hne => ?_⟩⟩
  · rcases h.2 with ⟨h0, _⟩ | ⟨g', cap', cur, hv, hg, hh, hn, hm, hs, ht⟩
    · cases h0
    · cases hv
      have hle : n * size ≤ cap * size := Nat.mul_le_mul_right _ hn
      refine ⟨by simpa using hF, Or.inr ⟨g, cap, putCells id 0 F cur, rfl, hg, ?_, hn, hm, by simp [putCells, hs], ?_⟩⟩
      · rw [heap_grow_old _ _ (by simpa using heap_lt hh)]
        simp [putRow, mapBlock, Sort.ahead, Array.getElem?_modify, hh, onCells]
      · apply List.ext_getElem?
        intro j
        by_cases hj : j < n * size
        · rw [List.getElem?_take_of_lt hj, Array.getElem?_toList]
          simp [putCells, hF, hj, show j < cur.size by omega]
        · rw [List.getElem?_eq_none (by rw [List.length_take]; omega), List.getElem?_eq_none (by simp; omega)]
  · rw [heap_grow_old _ _ (by simpa using hk)]
    have : g ≠ k := fun e => hne (by rw [e])
    simp [putRow, mapBlock, Sort.ahead, Array.getElem?_modify, this]
theorem holds_ownK {w : World} {lo g cap n size : Nat} {e : TypeId} {xs : List Value} (h : w.ownsRow lo e size (.slice (some ⟨g, 0, none⟩) n cap) n xs) : Holds id w g 0 xs.toArray := by
  intro j hj
  have hl := h.1
  rcases h.2 with ⟨h0, _⟩ | ⟨g', cap', cur, hv, hg, hh, hn, hm, hs, ht⟩
  · cases h0
  · cases hv
    have hj' : j < xs.length := by simpa using hj
    have hle : n * size ≤ cap * size := Nat.mul_le_mul_right _ hn
    refine ⟨?_, by simp [World.frozen?, hh]⟩
    have h1 : (cur.toList.take (n * size))[j]? = xs[j]? := by rw [ht]
    rw [List.getElem?_take_of_lt (by omega)] at h1
    rw [getElem!_pos _ j hj]
    simp only [World.cell?, hh, Nat.zero_add]
    simp only [Option.isSome_none, Bool.false_eq_true, if_false]
    rw [← Array.getElem?_toList, h1, List.getElem?_eq_getElem hj']
    simp

set_option maxHeartbeats 1000000 in
theorem closJ_any (x y : J) (hx : x.okB = true) (hy : y.okB = true) (w : World) :
    Calls Try.prog 141 #[.agg #[.int .i64 x.id, .int .i64 x.pr, .int .i64 x.nn, .int .i64 x.na, .int .i64 x.nb, .int .i64 x.nc, .int .i64 x.la, .int .i64 x.lb, .int .i64 x.lc, .int .i64 x.wl, .int .i64 x.lv], .agg #[.int .i64 y.id, .int .i64 y.pr, .int .i64 y.nn, .int .i64 y.na, .int .i64 y.nb, .int .i64 y.nc, .int .i64 y.la, .int .i64 y.lb, .int .i64 y.lc, .int .i64 y.wl, .int .i64 y.lv]] w fun e w' => e = .returned (.int .i64 (cfJ x y)) ∧ ∃ q os', w' = grow (w.drewN q) os' := by
  simp only [J.okB, Bool.and_eq_true, inB, decide_eq_true_eq] at hx hy
  have w1 : IntKind.i64.wrap (y.pr - x.pr) = y.pr - x.pr := IntWalk.i64_in _ (by omega)
  have w2 : IntKind.i64.wrap (x.id - y.id) = x.id - y.id := IntWalk.i64_in _ (by omega)
  clear hx hy
  unfold cfJ
  by_cases h : x.pr = y.pr
  · rw [if_pos h]
    go_enter Try.func141, Try.ntmps141
    go_wp2
    go_ret
    exact ⟨rfl, 0, _, by rw [alloc_eq_grow, alloc_eq_grow, grow_grow]; rfl⟩
  · rw [if_neg h]
    go_enter Try.func141, Try.ntmps141
    go_wp2
    go_ret
    exact ⟨rfl, 0, _, by rw [alloc_eq_grow, alloc_eq_grow, grow_grow]; rfl⟩
theorem toJA : ∀ (js : List J), (∀ j ∈ js, j.okB = true) → ∃ l : List JA, l.map (fun j => j.1) = js
  | [], _ => ⟨[], rfl⟩
  | j :: r, h => by
    obtain ⟨l, hl⟩ := toJA r (fun x hx => h x (List.mem_cons_of_mem _ hx))
    exact ⟨Subtype.mk j (h j List.mem_cons_self) :: l, congrArg (List.cons j) hl⟩

theorem sortJ_own {w : World} {lo g cap n : Nat} {js : List J} (h : w.ownsRow lo 118 11 (.slice (some ⟨g, 0, none⟩) n cap) n (jflat js)) (hn : n ≤ 1048580) (hok : ∀ j ∈ js, j.okB = true) (hd : distJ js) :
    Calls Try.prog 140 #[.slice (some ⟨g, 0, none⟩) n cap, .func (.func 141) #[] #[]] w fun e w' => e = .returned (.tuple #[]) ∧ w'.ownsRow lo 118 11 (.slice (some ⟨g, 0, none⟩) n cap) n (jflat (orderV js)) ∧ w.grownBy w' (some g) := by
  have hl : js.length = n := by have := h.1; rw [jflat_len] at this; omega
  obtain ⟨d, hd1⟩ : ∃ d : Array JA, d.toList.map (·.1) = js := by
    obtain ⟨l, hl9⟩ := toJA js hok
    exact ⟨l.toArray, hl9⟩
  have hds : d.size = n := by have := congrArg List.length hd1; simpa [hl] using this
  have hf : flatK encJ 11 d = (jflat js).toArray := by
    apply Array.ext'
    rw [flatJ_eq, hd1]
  have hH : HoldsK encJ 11 w g 0 d := by
    have h9 : Holds id w g 0 (jflat js).toArray := holds_ownK h
    rw [← hf] at h9
    exact h9
  have eg : ∀ args w, (callFunc 141 args).run Try.prog w = .ok (.enter 141 args) w := enters_of Try.func141 (by kernel_rfl) rfl
  have hc := AnyQ.slices_SortFunc Try.sortJ 11 Try.isAgg118 Try.sizeOf118 encJ (fun _ => rfl) (fun x v hv => by simp [encJ, J.cells] at hv; rcases hv with rfl | rfl | rfl | rfl | rfl | rfl | rfl | rfl | rfl | rfl | rfl <;> rfl) (fun x y : JA => cfJ x.1 y.1) swoJ 141 #[] g 0 cap d w eg (fun _ _ _ _ x y => closJ_any x.1 y.1 x.2 y.2 _) hH (own_blk h g rfl) (by omega)
  change Calls Try.prog 140 _ _ _ at hc
  rw [hds] at hc
  refine hc.mono ?_
  rintro e w' ⟨rfl, d', q, os, hp, hs, hw⟩
  have hds' : d'.size = n := by rw [hp.1]; exact hds
  obtain ⟨o1, o2⟩ := own_putK (q := q) (F := flatK encJ 11 d') (os := os) h (by simp [hds'])
  have hw2 : w' = grow (putRow id (Sort.ahead w q) g 0 (flatK encJ 11 d')) os := hw
  rw [← hw2] at o1 o2
  rw [flatJ_eq] at o1
  have hperm : (d'.toList.map (·.1)).Perm js := by
    have h1 := hp.2.2
    have e1 : (d'.extract 0 n) = d' := by rw [← hds']; simp
    have e2 : (d.extract 0 n) = d := by rw [← hds]; simp
    rw [e1, e2] at h1
    have := h1.map (·.1)
    rwa [hd1] at this
  have hsort : (d'.toList.map (·.1)).Pairwise fun a b => ¬ befJ b a := by
    rw [List.pairwise_map, List.pairwise_iff_getElem]
    intro i j hi hj hij
    have hi' : i < d'.size := by simpa using hi
    have hj' : j < d'.size := by simpa using hj
    have h1 := hs i j (Nat.zero_le _) hij (by omega)
    rw [ltJ, getElem!_pos d' j hj', getElem!_pos d' i hi'] at h1
    exact of_decide_eq_false h1
  rw [orderV_uniq hd hperm hsort] at o1
  exact ⟨rfl, o1, o2⟩
theorem jflat_one {js : List J} : ∀ u ∈ jflat js, u.oneCell' = true := by
  intro u hu
  unfold jflat at hu
  obtain ⟨j, _, h2⟩ := List.mem_flatMap.1 hu
  simp only [J.cells, List.mem_cons, List.not_mem_nil, or_false] at h2
  rcases h2 with rfl | rfl | rfl | rfl | rfl | rfl | rfl | rfl | rfl | rfl | rfl <;> rfl
theorem own_some {w : World} {lo : Nat} {e : TypeId} {size n : Nat} {v : Value} {xs : List Value} (h : w.ownsRow lo e size v n xs) (hv : v ≠ .slice none 0 0) : ∃ g cap, v = .slice (some ⟨g, 0, none⟩) n cap := by
  rcases h.2 with ⟨h0, _⟩ | ⟨g, cap, cur, hv', _⟩
  · exact absurd h0 hv
  · exact ⟨g, cap, hv'⟩
set_option maxHeartbeats 4000000 in
theorem order_any (A : Option Addr) (n c : Nat) (js : List J) (w : World) (hn : n ≤ 60) (hr : Rd w A n 11 (jflat js)) (hA : (A = none ∧ n = 0 ∧ c = 0) ∨ ∃ g, A = some ⟨g, 0, none⟩ ∧ g < w.heap.size) (hok : ∀ j ∈ js, j.okB = true) (hd : distJ js) :
    Calls Try.prog 90 #[.slice A n c] w fun e w' => ∃ v, e = .returned v ∧ w'.ownsRow w.heap.size 118 11 v (orderV js).length (jflat (orderV js)) ∧ Below w.heap.size w w' := by
  have hjl := hr.jlen
  have HOK := Lib.hid hok
  have HD := Lib.hid hd
  have HN := Lib.hid hn
  have HVL : Hid ((orderV js).length = n) := Lib.hid (by rw [orderV_len]; exact hjl)
  clear hok hd hn
  obtain ⟨i0, hi, hz0, hz1, hz2⟩ := info_parts infoJ
  rcases hA with ⟨rfl, rfl, rfl⟩ | ⟨g, rfl, hg⟩
  · have hjs : js = [] := List.eq_nil_of_length_eq_zero hjl
    subst hjs
    clear hr hjl
    go_enter Try.func90, Try.ntmps90
    go_wp2_with (at_builtin; refine wpList_append_own_none _ rfl _ _ 66 rfl (w.heap.size) 118 i0 11 Try.underlying66 hi (.slice (some ⟨w.heap.size, 0, none⟩) 0 0) 0 [] rfl (own_lit (cs := []) (heap_at _ rfl) rfl (by decide) (Nat.le_refl _)) rfl ?_)
    go_wp2_with fail
    refine (sortJ_own (lo := w.heap.size) (n := 0) (js := []) (own_lit (cs := []) (heap_at _ rfl) rfl (by decide) (Nat.le_refl _)) (by omega) HOK.out HD.out).mono ?_
    rintro e w2 ⟨rfl, own2, hg2⟩
    have HO := Lib.hid own2
    have HB : Hid (Below w.heap.size w w2) := Lib.hid (Below.grown (below_alloc w _) hg2 (by simp) (fun k hk => by cases hk; exact Nat.le_refl _))
    clear own2 hg2 hi hz0 hz1 hz2
    go_wp2
    go_ret
    exact ⟨_, rfl, HO.out, HB.out⟩
  · have HR := Lib.hid hr
    have HG := Lib.hid hg
    have hm : n ≤ 9223372036854775807 := by have := HN.out; omega
    clear hr hg
    go_enter Try.func90, Try.ntmps90
    go_wp2_with (at_builtin; refine wpList_append_own _ rfl _ _ 66 rfl (w.heap.size) 118 i0 (.agg #[.int .i64 0, .int .i64 0, .int .i64 0, .int .i64 0, .int .i64 0, .int .i64 0, .int .i64 0, .int .i64 0, .int .i64 0, .int .i64 0, .int .i64 0]) 11 88 Try.underlying66 hi hz0 hz1 hz2 rfl (by decide) (.slice (some ⟨w.heap.size, 0, none⟩) 0 0) 0 [] rfl (own_lit (cs := []) (heap_at _ rfl) rfl (by decide) (Nat.le_refl _)) ⟨g, 0, none⟩ n c (jflat js) rfl ?c1 ?c2 jflat_one ?c3 ?c4 ?c5 ?_)
    try case c1 => exact HR.out.1
    case c2 =>
      intro j u hj
      have hjn : j < n * 11 := by have h1 := (List.getElem?_eq_some_iff.1 hj).1; have := HR.out.1; omega
      obtain ⟨g', hg', hc⟩ := HR.out.2 (by omega)
      cases hg'
      have := hc j u hj
      have e9 : (⟨g, 0, none⟩ : Addr).add j = ⟨g, j, none⟩ := by unfold Addr.add; by_cases h : j = 0 <;> simp [h]
      rw [e9]
      exact ((below_alloc w _).cell (p := ⟨g, j, none⟩) HG.out).trans this
    try case c3 => unfold maxLen; have := HN.out; omega
    try case c4 => have := HN.out; omega
    try case c5 => simp
    intro v' w1 own1 hg1 hne
    have hv' : v' ≠ .slice none 0 0 := fun h => by first | exact hne h | (have := (hne.1 h).1; cases this)
    obtain ⟨g', c', rfl⟩ := own_some own1 hv'
    have own1' : w1.ownsRow w.heap.size 118 11 (.slice (some ⟨g', 0, none⟩) n c') n (jflat js) := by
      have h9 := own1
      (try simp only [List.nil_append, Nat.zero_add] at h9)
      exact h9
    have hgw := own_ge own1' g' rfl
    have hB1 : Below w.heap.size w w1 := Below.grown (below_alloc w _) hg1 (by simp) (fun k hk => by cases hk; exact Nat.le_refl _)
    have HO1 := Lib.hid own1'
    have HB1 := Lib.hid hB1
    (try rw [Nat.zero_add])
    clear own1 own1' hg1 hne hv' hB1 hi hz0 hz1 hz2
    go_wp2_with fail
    refine (sortJ_own HO1.out (by have := HN.out; omega) HOK.out HD.out).mono ?_
    rintro e w2 ⟨rfl, own2, hg2⟩
    have HO := Lib.hid own2
    have HB : Hid (Below w.heap.size w w2) := Lib.hid (Below.grown HB1.out hg2 HB1.out.size (fun k hk => by cases hk; exact hgw))
    clear own2 hg2
    go_wp2
    go_ret
    exact ⟨_, rfl, by rw [HVL.out]; exact HO.out, HB.out⟩
end Go.Proofs.Ytpfcegjomdppmaa
