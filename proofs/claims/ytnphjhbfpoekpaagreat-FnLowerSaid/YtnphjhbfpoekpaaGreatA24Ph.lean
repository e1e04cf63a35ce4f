import Derived.Test.YtnphjhbfpoekpaaGreatA3Ph
import Derived.StillTail
import Derived.Test.YtnphjhbfpoekpaaGreatA8Ph
import Derived.Test.YtnphjhbfpoekpaaGreatA14Ph
import Derived.Test.YtnphjhbfpoekpaaGreatA5Ph
import Derived.Maps.AppendAt
import Derived.Deep.RegionHeld3
import Derived.Test.YtnphjhbfpoekpaaGreatEaPh
namespace Go.Proofs.YtnphjhbfpoekpaaGreat
set_option linter.unusedSimpArgs false
set_option linter.unusedVariables false
set_option linter.unnecessarySimpa false
open Go Go.RowKit
theorem dstAt_take {l : List Oper} {N i : Nat} (h : i < N) : dstAt (l.take N) i = dstAt l i := by
 unfold dstAt; rw [List.getElem?_take, if_pos h]
theorem RN_take {l : List Oper} {N : Nat} {c : Nat → Cl} {R : Flo} : ∀ i, i ≤ N → RN (l.take N) c R i = RN l c R i
 | 0, _ => rfl
 | i + 1, h => by rw [RN, RN, dstAt_take (by omega), RN_take i (by omega)]
theorem frN_take {l : List Oper} {N : Nat} {c : Nat → Cl} {s : (Tmp → Value) → Array Value} : ∀ i, i ≤ N → frN (l.take N) c s i = frN l c s i
 | 0, _ => rfl
 | i + 1, h => by funext f; rw [frN, frN, dstAt_take (by omega), frN_take i (by omega)]
def headL (n N : Nat) : Array Bool := ((List.range n).map fun j => decide (j < N)).toArray
theorem headL_eq {listed : Array Bool} {n N : Nat} (hs : listed.size = n) (h1 : ∀ i, i < N → i < n → listed.getD i false = true) (h2 : ∀ i, N ≤ i → listed.getD i false = false) : listed = headL n N := by
 apply Array.ext_getElem?
 intro i
 unfold headL
 by_cases hi : i < n
 ·have e1 : listed[i]? = some (listed.getD i false) := by
   have : i < listed.size := by omega
   simp [this]
  rw [e1]
  simp only [List.getElem?_toArray, List.getElem?_map, List.getElem?_range hi, Option.map_some]
  by_cases hN : i < N
  ·rw [h1 i hN hi]; simp [hN]
  ·rw [h2 i (by omega)]; simp [hN]
 ·rw [Array.getElem?_eq_none (by omega), Array.getElem?_eq_none (by simp; omega)]
def unlN (N : Nat) (listed : Array Bool) : Nat := unlisted N listed
theorem unlN_step {N : Nat} {listed : Array Bool} {i : Nat} (hi : i < N) (hs : i < listed.size) (hun : listed.getD i false = false) : unlN N (listed.setIfInBounds i true) + 1 = unlN N listed := by
 unfold unlN unlisted
 rw [← List.countP_eq_length_filter, ← List.countP_eq_length_filter]
 have hsplit : ∀ n, i < n → List.countP (fun j => !(listed.setIfInBounds i true).getD j false) (List.range n) + 1 = List.countP (fun j => !listed.getD j false) (List.range n) := by
  intro n
  induction n with
  | zero => intro h; omega
  | succ n ih =>
   intro h
   rw [List.range_succ, List.countP_append, List.countP_append]
   by_cases hin : i = n
   ·subst hin
    have same : List.countP (fun j => !(listed.setIfInBounds i true).getD j false) (List.range i) = List.countP (fun j => !listed.getD j false) (List.range i) := by
     apply List.countP_congr
     intro j hj
     have : i ≠ j := by have := List.mem_range.1 hj; omega
     rw [getD_set_ne false this]
    rw [same]
    have h1 : (listed.setIfInBounds i true).getD i false = true := by simp [hs]
    simp only [List.countP_singleton, h1, hun]
    simp
   ·have := ih (by omega)
    simp only [List.countP_singleton]
    rw [getD_set_ne false hin]
    omega
 exact hsplit N hi
section
variable {P : Program} {ops : Array Oper} {ds : List Deferred} {J : World → Prop} {St : World → World → Prop} {Q : Exit → Act → World → Prop} {s0 : Array Value} {b : Array Nat} {c : Nat → Cl} {N : Nat}
theorem dstepT (hok : detOk ops b s0.size = true)
  (hob : ∀ i o, i < N → ops[i]? = some o → (∀ r, c i = .flo r → (o.dst.isSome = true ∧ ∀ u w w', r u w → St w w' → r u w')) ∧ ObOp P ops ds J St o (c i) (RN ops.toList c [] i) (frN ops.toList c (fun _ => s0) i))
  {listed : Array Bool} {a : Act} {w : World} (hI : DInv ops ds J s0 c listed a w) (htl : ∀ i, N ≤ i → listed.getD i false = false) {i : Nat} (hiN : i < N) (hr : i ∈ Region.ready .any ops listed) {K : Act → World → Prop}
  (hK : ∀ a' w', DInv ops ds J s0 c (listed.setIfInBounds i true) a' w' → K a' w') : wpOp P ops Q i K a w := by
 obtain ⟨hun, o, hi, hrd⟩ := mem_ready.1 hr
 have hlti : i < ops.size := (Array.getElem?_eq_some_iff.1 hi).1
 obtain ⟨hk1, hk2, hk3⟩ := detOk_spec hok
 have hag : ∀ t ∈ o.looksAt ops, a.tmps[t]? = (frN ops.toList c (fun _ => s0) i (fun t => a.tmps.getD t undef))[t]? := fun t ht => frame_agree hok hI hi hun hrd ht
 obtain ⟨hst, ho⟩ := hob i o hiN hi
 have h0 := ho (fun t => a.tmps.getD t undef) w (fun a' w' => J w' ∧ St w w' ∧ a'.defers = ds ∧ ∀ d, o.dst = some d → (c i).ok (a'.tmps.getD d undef) w') hI.j ?_ ?_
 ·have fin : ∀ u w', J w' → St w w' → (∀ d, o.dst = some d → (c i).ok ((Act.put ⟨frN ops.toList c (fun _ => s0) i (fun t => a.tmps.getD t undef), ds⟩ o.dst u).tmps.getD d undef) w') → K (a.put o.dst u) w' := by
   intro u w' hJ hS hok'
   refine hK _ _ ⟨by rw [Array.size_setIfInBounds]; exact hI.size, ?_, ?_, hJ, ?_, ?_⟩
   ·cases hd : o.dst <;> simp [Act.put, hI.defers]
   ·cases hd : o.dst <;> simp [Act.put, hI.tmps]
   ·intro j x hx hl e he hb
    by_cases hij : i = j
    ·subst hij
     have : x = o := by rw [hi] at hx; exact (Option.some.inj hx).symm
     subst this
     exact getD_set_true (hrd e he hb)
    ·rw [getD_set_ne false hij] at hl
     exact getD_set_true (hI.closed j x hx hl e he hb)
   ·intro t ht
    have hold := hI.reads t ht
    by_cases hd : o.dst = some t
    ·have e1 : lastW ops.toList (fun j => (listed.setIfInBounds i true).getD j false) ops.size t = some i := by
      have := lastW_eq (l := ops.toList) (p := fun j => (listed.setIfInBounds i true).getD j false) (t := t) (i := i + 1) ops.size (by omega) (by
       intro j hj hdj
       have hh := listed_iff hok hI hi hun hrd (Or.inr hd) j hj hdj
       by_cases hij : i = j
       ·subst hij
        have : i < listed.size := by rw [hI.size]; exact hlti
        simp [this]
       ·show (listed.setIfInBounds i true).getD j false = true ↔ _
        rw [getD_set_ne false hij, hh]
        omega)
      rw [this, lastW, if_pos ⟨rfl, by rw [dstAt_of hi]; exact hd⟩]
     rw [e1]
     have h3 := hok' t hd
     have e2 : (a.put o.dst u).tmps.getD t undef = u := by
      have : t < a.tmps.size := by rw [hI.tmps]; exact ht
      simp [Act.put, hd, this]
     have e3 : (Act.put ⟨frN ops.toList c (fun _ => s0) i (fun t => a.tmps.getD t undef), ds⟩ o.dst u).tmps.getD t undef = u := by
      rw [hd]; exact put_getD _ (by rw [frN_size]; exact ht)
     rw [e3] at h3
     show (c i).ok ((a.put o.dst u).tmps.getD t undef) w'
     rw [e2]; exact h3
    ·have e1 : lastW ops.toList (fun j => (listed.setIfInBounds i true).getD j false) ops.size t = lastW ops.toList (fun j => listed.getD j false) ops.size t := by
      refine lastW_congr _ fun j hj hdj => ?_
      have hij : i ≠ j := by
       intro e; subst e; rw [dstAt_of hi] at hdj; exact hd hdj
      exact getD_set_ne false hij
     have e2 : (a.put o.dst u).tmps[t]? = a.tmps[t]? := by
      cases hdd : o.dst with
      | none => rfl
      | some d =>
       have hne : d ≠ t := fun e => hd (by rw [hdd, e])
       simp [Act.put, Array.getElem?_setIfInBounds_ne hne]
     have e3 : (a.put o.dst u).tmps.getD t undef = a.tmps.getD t undef := by
      have h4 := congrArg (·.getD undef) e2
      simpa using h4
     rw [e1]
     cases hl : lastW ops.toList (fun j => listed.getD j false) ops.size t with
     | none => rw [hl] at hold; show (a.put o.dst u).tmps[t]? = _; rw [e2]; exact hold
     | some j =>
      rw [hl] at hold
      show (c j).ok ((a.put o.dst u).tmps.getD t undef) w'
      rw [e3]
      replace hold : (c j).ok (a.tmps.getD t undef) w := hold
      cases hc : c j with
      | det v => rw [hc] at hold; exact hold
      | flo r =>
       rw [hc] at hold
       obtain ⟨hj1, _, hj2⟩ := lastW_spec _ hl
       obtain ⟨x, hx, _⟩ := of_dstAt hj2
       have hjN : j < N := by
        false_or_by_contra
        have h9 := htl j (by omega)
        rw [(lastW_spec _ hl).2.1] at h9
        cases h9
       exact ((hob j x hjN hx).1 r hc).2 _ _ _ hold hS
  refine cond_move (K := fun a' w' => J w' ∧ St w w' ∧ a'.defers = ds ∧ ∀ d, o.dst = some d → (c i).ok (a'.tmps.getD d undef) w') (a' := ⟨frN ops.toList c (fun _ => s0) i (fun t => a.tmps.getD t undef), ds⟩) i hi (wanted_agree hag) (fun h => oper_move (K := fun a' w' => J w' ∧ St w w' ∧ a'.defers = ds ∧ ∀ d, o.dst = some d → (c i).ok (a'.tmps.getD d undef) w') (hk1 i o hi).1 hag ?_ ?_ h) ?_ h0
  ·intro u w' hh
   exact fin u w' hh.1 hh.2.1 hh.2.2.2
  ·intro d u w' hh
   have := hh.2.2.1
   have h5 := congrArg List.length this
   cases hdd : o.dst <;> simp [Act.put, hdd] at h5
  ·intro hh
   exact fin undef w hh.1 hh.2.1 hh.2.2.2
 ·intro p hp hlk
  obtain ⟨j, hj, hcj⟩ := RN_mem i p hp
  have hlt : p.1 < s0.size := by
   obtain ⟨_, _, hj2⟩ := lastW_spec _ hj
   obtain ⟨x, hx, hxd⟩ := of_dstAt hj2
   exact (hk1 j x hx).2.1 _ hxd
  have hr := hI.reads p.1 hlt
  rw [lastW_eq ops.size (Nat.le_of_lt hlti) (listed_iff hok hI hi hun hrd (Or.inl hlk)), hj] at hr
  replace hr : (c j).ok (a.tmps.getD p.1 undef) w := hr
  rw [hcj] at hr
  exact hr
 ·intro u w' hJ hS hok'
  refine ⟨hJ, hS, by cases o.dst <;> rfl, ?_⟩
  intro d hd
  have hlt := (hk1 i o hi).2.1 d hd
  rw [hd, put_getD _ (by rw [frN_size]; exact hlt)]
  exact hok'
theorem wpAny_detT (hok : detOk ops b s0.size = true) (hs : Region.sinkB .any ops N = true) (hc : Region.chainB .any ops N = true) (hn : N < ops.size) (hseq : Region.seqB .any ops (ops.size - N) N (headL ops.size N) = true)
  (hob : ∀ i o, i < N → ops[i]? = some o → (∀ r, c i = .flo r → (o.dst.isSome = true ∧ ∀ u w w', r u w → St w w' → r u w')) ∧ ObOp P ops ds J St o (c i) (RN ops.toList c [] i) (frN ops.toList c (fun _ => s0) i))
  (hfin : ∀ (f : Tmp → Value) (w : World), J w → (∀ p ∈ RN ops.toList c [] N, p.2 (f p.1) w) → wpList P ops Q (ops.toList.drop N) ⟨frN ops.toList c (fun _ => s0) N f, ds⟩ w) :
  ∀ (fuel : Nat) (listed : Array Bool) (a : Act) (w : World), DInv ops ds J s0 c listed a w → (∀ i, N ≤ i → listed.getD i false = false) → unlN N listed = fuel → wpAny P .any ops Q (fuel + (ops.size - N)) listed a w := by
 intro fuel
 induction fuel with
 | zero =>
  intro listed a w hI htl hf
  have hall : ∀ i, i < N → listed.getD i false = true := by
   intro i hi
   cases hl : listed.getD i false with
   | true => rfl
   | false =>
    have := unlN_step (N := N) hi (by rw [hI.size]; omega) hl
    omega
  have he : listed = headL ops.size N := headL_eq hI.size (fun i hi _ => hall i hi) htl
  have hdl : (ops.toList.drop N).length = ops.size - N := by simp
  have hq : wpList P ops Q (ops.toList.drop N) a w := by
   have e0 : ∀ t, lastW ops.toList (fun j => listed.getD j false) ops.size t = lastW ops.toList (fun _ => true) N t := fun t => lastW_eq ops.size (by omega) fun j hj _ => by
    by_cases hjN : j < N
    ·simp [hall j hjN, hjN]
    ·rw [htl j (by omega)]; simp; omega
   have ea : a = ⟨frN ops.toList c (fun _ => s0) N (fun t => a.tmps.getD t undef), ds⟩ := by
    have e1 : a.tmps = frN ops.toList c (fun _ => s0) N (fun t => a.tmps.getD t undef) := by
     apply Array.ext_getElem?
     intro t
     by_cases hlt : t < s0.size
     ·rw [frN_read _ _ hlt]
      have hr := hI.reads t hlt
      rw [e0] at hr
      cases hl : lastW ops.toList (fun _ => true) N t with
      | none => rw [hl] at hr; exact hr
      | some j =>
       rw [hl] at hr
       replace hr : (c j).ok (a.tmps.getD t undef) w := hr
       have hs : a.tmps[t]? = some (a.tmps.getD t undef) := by
        have : t < a.tmps.size := by rw [hI.tmps]; exact hlt
        simp [this]
       rw [hs]
       show some _ = some _
       congr 1
       cases hc : c j with
       | det v => rw [hc] at hr; exact hr
       | flo r => rfl
     ·have h1 : a.tmps.size ≤ t := by rw [hI.tmps]; exact Nat.not_lt.1 hlt
      have h2 : (frN ops.toList c (fun _ => s0) N (fun t => a.tmps.getD t undef)).size ≤ t := by rw [frN_size]; exact Nat.not_lt.1 hlt
      rw [Array.getElem?_eq_none h1, Array.getElem?_eq_none h2]
    have e2 := hI.defers
    obtain ⟨at', ad⟩ := a
    simp only at e1 e2
    subst e2
    exact congrArg (fun x => (⟨x, ad⟩ : Act)) e1
   rw [ea]
   refine hfin _ w hI.j ?_
   intro p hp
   obtain ⟨j, hj, hcj⟩ := RN_mem N p hp
   have hlt : p.1 < s0.size := by
    obtain ⟨_, _, hj2⟩ := lastW_spec _ hj
    obtain ⟨x, hx, hxd⟩ := of_dstAt hj2
    exact ((detOk_spec hok).1 j x hx).2.1 _ hxd
   have hr := hI.reads p.1 hlt
   rw [e0, hj] at hr
   replace hr : (c j).ok (a.tmps.getD p.1 undef) w := hr
   rw [hcj] at hr
   exact hr
  have := wpAny_of_seq (md := .any) (Q' := Q) (ops.toList.drop N) N listed a w (fun j => by simp [List.getElem?_drop]) (by rw [hdl, he]; exact hseq) hq
  rw [hdl] at this
  simpa using this
 | succ fuel ih =>
  intro listed a w hI htl hf
  have hex : ∃ i, i < N ∧ listed.getD i true = false := by
   false_or_by_contra
   rename_i hno
   have hz : unlN N listed = 0 := by
    unfold unlN unlisted
    rw [List.length_eq_zero_iff, List.filter_eq_nil_iff]
    intro j hj
    have hjN := List.mem_range.1 hj
    have hjs : j < listed.size := by rw [hI.size]; omega
    cases hl : listed.getD j false with
    | true => simp
    | false => exact absurd ⟨j, hjN, by rw [getD_tf hjs]; exact hl⟩ hno
   omega
  obtain ⟨i0, hi0, hu0⟩ := hex
  have inv : HeadInv .any ops N listed := ⟨hI.size, fun j oj hj hl => hI.closed j oj hj hl, fun t ht ht' => getD_in (by rw [hI.size]; exact ht') (htl t ht)⟩
  have hlt : ∀ i ∈ Region.ready .any ops listed, i < N := fun i hi => by
   false_or_by_contra
   exact tail_waits hs hc hn inv _ i0 rfl hi0 hu0 i (by omega) hi
  rw [show fuel + 1 + (ops.size - N) = (fuel + (ops.size - N)) + 1 by omega]
  refine ⟨fun hr => ?_, fun i hi => ?_⟩
  ·exfalso
   have hall := all_listed hok hI.size hr i0 (by omega)
   have hs0 : i0 < listed.size := by rw [hI.size]; omega
   rw [getD_tf hs0, hall] at hu0
   cases hu0
  ·have hiN := hlt i hi
   obtain ⟨hun, o, ho, _⟩ := mem_ready.1 hi
   have hsz : i < listed.size := by rw [hI.size]; omega
   refine dstepT hok hob hI htl hiN hi fun a' w' hI' => ih _ a' w' hI' (fun j hj => ?_) ?_
   ·rw [getD_set_ne false (by omega)]; exact htl j hj
   ·have := unlN_step (N := N) hiN hsz (by rw [← getD_tf hsz]; exact hun)
    omega
def tailOk (ops : Array Oper) (N : Nat) (n : Nat) : Bool :=
 detOk ops (Region.before ops) n && Region.sinkB .any ops N && Region.chainB .any ops N && decide (N < ops.size) && Region.seqB .any ops (ops.size - N) N (headL ops.size N)
theorem wp_region_tail {id : Nat} {w : World} (N : Nat) (J : World → Prop) (St : World → World → Prop) (hm : P.follows .mixedOrders = true) (hok : tailOk ops N s0.size = true) (hJ : J w.drew)
  (h : Det P ops ds J St (fun _ a w => wpList P ops Q (ops.toList.drop N) a w) (ops.toList.take N) [] (fun _ => s0)) : (Code.region id ops true).wp P Q ⟨s0, ds⟩ w := by
 unfold tailOk at hok
 simp only [Bool.and_eq_true, decide_eq_true_eq] at hok
 obtain ⟨⟨⟨⟨hk, hs⟩, hc⟩, hn⟩, hq⟩ := hok
 obtain ⟨c, h1, h2⟩ := det_chain _ _ _ h
 have hl : (ops.toList.take N).length = N := by simp; omega
 rw [hl, RN_take N (Nat.le_refl _), frN_take N (Nat.le_refl _)] at h2
 refine wp_region_any hm ?_
 have h0 := wpAny_detT (Q := Q) (c := c) hk hs hc hn hq (fun i o hi ho => by
  have := h1 i o (by rw [List.getElem?_take, if_pos hi, Array.getElem?_toList]; exact ho)
  rwa [RN_take i (by omega), frN_take i (by omega)] at this) h2 (unlN N (Array.replicate ops.size false)) (Array.replicate ops.size false) ⟨s0, ds⟩ w.drew ⟨by simp, rfl, rfl, hJ, ?_, ?_⟩ (fun i hi => getD_replicate_false _ _) rfl
 ·have : unlN N (Array.replicate ops.size false) = N := by
   unfold unlN unlisted
   have e : (List.range N).filter (fun j => !(Array.replicate ops.size false).getD j false) = List.range N := by
    rw [List.filter_eq_self]
    intro j _
    rw [getD_replicate_false]; rfl
   rw [e, List.length_range]
  rw [this, show N + (ops.size - N) = ops.size by omega] at h0
  exact h0
 ·intro i o hi hl
  rw [getD_replicate_false] at hl; cases hl
 ·intro t ht
  have : lastW ops.toList (fun j => (Array.replicate ops.size false).getD j false) ops.size t = none := by
   have := lastW_eq (l := ops.toList) (p := fun j => (Array.replicate ops.size false).getD j false) (t := t) (i := 0) ops.size (Nat.zero_le _) (by
    intro j hj _
    simp [hj])
   rw [this]; rfl
  rw [this]
end
section
variable {P : Program} {ops : Array Oper} {ds : List Deferred} {J : World → Prop} {St : World → World → Prop} {Q : Exit → Act → World → Prop}
theorem Det.nil {R : Flo} {s : (Tmp → Value) → Array Value} (h : ∀ f w, J w → (∀ p ∈ R, p.2 (f p.1) w) → Q .normal ⟨s f, ds⟩ w) : Det P ops ds J St Q [] R s := h
theorem Det.val {o : Oper} {l : List Oper} {R : Flo} {s : (Tmp → Value) → Array Value} (v : Value) (hg : o.guard = none)
  (h : ∀ f (w : World), J w → (execOp (Act.eval ⟨s f, ds⟩) o).run P w = .ok (.value v) w) (hS : ∀ w, St w w)
  (hl : Det P ops ds J St Q l (addF R o.dst (.det v)) (fun f => putA (s f) o.dst v)) : Det P ops ds J St Q (o :: l) R s := by
 refine ⟨.det v, (fun r h => by cases h), ?_, hl⟩
 intro f w K hJ _ hK
 have hw : Region.wanted o (yielded ops (s f)) = true := by unfold Region.wanted; rw [hg]
 rw [if_pos hw]
 unfold Oper.wp; rw [h f w hJ]
 exact hK v w hJ (hS w) rfl
theorem Det.flo {o : Oper} {l : List Oper} {R : Flo} {s : (Tmp → Value) → Array Value} (r : Value → World → Prop) (hg : o.guard = none) (hd : o.dst.isSome = true) (hr : ∀ u w w', r u w → St w w' → r u w')
  (h : ∀ f (w : World) (K : Act → World → Prop), J w → (∀ p ∈ R, p.1 ∈ o.looksAt ops → p.2 (f p.1) w) → (∀ u w', J w' → St w w' → r u w' → K (Act.put ⟨s f, ds⟩ o.dst u) w') → o.wp P ⟨s f, ds⟩ w K NoQ)
  (hl : Det P ops ds J St Q l (addF R o.dst (.flo r)) (fun f => putA (s f) o.dst (f (o.dst.getD 0)))) : Det P ops ds J St Q (o :: l) R s := by
 refine ⟨.flo r, (fun r' h => by cases h; exact ⟨hd, hr⟩), ?_, hl⟩
 intro f w K hJ hR hK
 have hw : Region.wanted o (yielded ops (s f)) = true := by unfold Region.wanted; rw [hg]
 rw [if_pos hw]
 exact h f w K hJ hR hK
end
theorem Fr.of_bel {S : Nat → Prop} {w wr w' : World} (h : Fr S w wr) (hb : Below wr.heap.size wr w') : Fr S w w' := h.trans (Fr.of_below S hb)
theorem Fr.grown {S : Nat → Prop} {w wr w' : World} (h : Fr S w wr) {row : Option Nat} (hg : wr.grownBy w' row) (hr : ∀ k, row = some k → w.heap.size ≤ k) : Fr S w w' := by
 refine ⟨hg.os.trans h.os, hg.tape.trans h.tape, hg.output.trans h.output, Nat.le_trans h.size hg.size, fun k hk hn => ?_⟩
 rw [hg.block k (Nat.lt_of_lt_of_le hk h.size) (fun e => by have := hr k e.symm; omega)]
 exact h.block k hk hn
theorem Cur.grown {w w' : World} {g : Nat} (h : Cur w g) {row : Option Nat} (hg : w.grownBy w' row) (hr : ∀ k, row = some k → g < k) : Cur w' g := by
 obtain ⟨A, n, c, pos, st, h1, h2, h3, h4, h5, h6⟩ := h.ex
 refine ⟨A, n, c, pos, st, zAp h1 hg (fun k hk => by have := hr k hk; omega), h2, h3, h4, ?_, h6⟩
 intro hn
 obtain ⟨b, off, rfl, hl, hc⟩ := h5 hn
 refine ⟨b, off, rfl, Nat.lt_of_lt_of_le hl hg.size, fun k hk => ?_⟩
 obtain ⟨z, h0, h1', h2'⟩ := hc k hk
 exact ⟨z, h0, h1', (World.cell?_of_block (hg.block b hl (fun e => by have := hr b e.symm; have := h6 hn b ⟨off, rfl⟩; omega))).trans h2'⟩
structure DT (w wr : World) (g b0 b : Nat) (ps : List Int) (L : Value) (ls : List Int) (X : Value) (xs : List Int) : Prop where
 box : ∃ A c, wr.heap[b]? = some (.cells #[.slice A ps.length c, .slice none 0 0] 26 (0, 0)) ∧ wr.ownsRow w.heap.size 3 1 (.slice A ps.length c) ps.length (ints ps) ∧ ∀ k, (Value.slice A ps.length c).ownBlock = some k → L.ownBlock ≠ some k ∧ X.ownBlock ≠ some k
 last : wr.ownsRow w.heap.size 3 1 L ls.length (ints ls)
 next : wr.ownsRow w.heap.size 3 1 X xs.length (ints xs)
 ap : ∀ k, L.ownBlock = some k → X.ownBlock ≠ some k
 res : wr.heap[b0]? = some (.cells #[.slice none 0 0, .slice none 0 0] 26 (0, 0))
 cur : Cur wr g
 fr : Fr (· = g) w wr
 hb : b0 < b ∧ w.heap.size ≤ b0 ∧ g < w.heap.size
 nl : ∀ x ∈ ls, 0 ≤ x
 nx : ∀ x ∈ xs, 0 ≤ x
theorem DT.bel {w wr w' : World} {g b0 b : Nat} {ps ls xs : List Int} {L X : Value} (h : DT w wr g b0 b ps L ls X xs) (hb : Below wr.heap.size wr w') : DT w w' g b0 b ps L ls X xs := by
 obtain ⟨A, c, h1, h2, h3⟩ := h.box
 exact ⟨⟨A, c, zAf h1 hb, zAe h2 hb, h3⟩, zAe h.last hb, zAe h.next hb, h.ap, zAf h.res hb, h.cur.below hb, h.fr.of_bel hb, h.hb, h.nl, h.nx⟩
theorem DT.cs {w wr w' : World} {g b0 b : Nat} {ps ls xs : List Int} {L X : Value} (h : DT w wr g b0 b ps L ls X xs) (hf : Fr (· = g) wr w') (hc : Cur w' g) : DT w w' g b0 b ps L ls X xs := by
 obtain ⟨A, c, h1, h2, h3⟩ := h.box
 have hh := h.hb
 refine ⟨⟨A, c, bx_fr h1 hf (by omega), own_fr h2 hf (fun k hk e => by have := zAu h2 k hk; omega), h3⟩, own_fr h.last hf (fun k hk e => by have := zAu h.last k hk; omega), own_fr h.next hf (fun k hk e => by have := zAu h.next k hk; omega), h.ap, bx_fr h.res hf (by omega), hc, h.fr.trans hf, h.hb, h.nl, h.nx⟩
theorem DT.setNext {w wr : World} {g b0 b : Nat} {ps ls xs : List Int} {L X : Value} (h : DT w wr g b0 b ps L ls X xs) {Y : Value} (hy : wr.ownsRow w.heap.size 3 1 Y 0 []) (hf : Y = .slice none 0 0 ∨ ∀ k, Y.ownBlock = some k → (∀ j, L.ownBlock = some j → j < k) ∧ (∀ A n c j, wr.ownsRow w.heap.size 3 1 (.slice A n c) n (ints ps) → (Value.slice A n c).ownBlock = some j → j < k)) : DT w wr g b0 b ps L ls Y [] := by
 obtain ⟨A, c, h1, h2, h3⟩ := h.box
 rcases hf with rfl | hf
 ·exact ⟨⟨A, c, h1, h2, fun k hk => ⟨(h3 k hk).1, by simp [Value.ownBlock]⟩⟩, h.last, hy, fun k hk => by simp [Value.ownBlock], h.res, h.cur, h.fr, h.hb, h.nl, by simp⟩
 ·refine ⟨⟨A, c, h1, h2, fun k hk => ⟨(h3 k hk).1, fun e => ?_⟩⟩, h.last, hy, fun k hk e => ?_, h.res, h.cur, h.fr, h.hb, h.nl, by simp⟩
  ·have := (hf k e).2 A _ c k h2 hk; omega
  ·have := (hf k e).1 k hk; omega
theorem DT.fresh {w wr : World} {g b0 b : Nat} {ps ls xs : List Int} {L X : Value} (h : DT w wr g b0 b ps L ls X xs) : DT w (wr.alloc (.cells #[] 3)) g b0 b ps L ls (.slice (some ⟨wr.heap.size, 0, none⟩) 0 0) [] := by
 have h' := h.bel (zAa wr (.cells #[] 3))
 obtain ⟨A, c, h1, h2, h3⟩ := h.box
 refine ⟨⟨A, c, zAs h1 _, zAe h2 (zAa _ _), fun k hk => ⟨(h3 k hk).1, fun e => ?_⟩⟩, h'.last, zAm (own_empty wr _) h.fr.size, fun k hk e => ?_, h'.res, h'.cur, h'.fr, h'.hb, h'.nl, by simp⟩
 ·simp [Value.ownBlock] at e; have := own_lt h2 k hk; omega
 ·simp [Value.ownBlock] at e; have := own_lt h.last k hk; omega
theorem DT.start {w w1 : World} {g : Nat} (hc : Cur w1 g) (hf : Fr (· = g) (((w.alloc (.cells #[.slice none 0 0, .slice none 0 0] 26)).alloc (.cells #[.int .i64 0] 3)).alloc (.cells #[.slice (some ⟨w.heap.size + 1, 0, none⟩) 1 1, .slice none 0 0] 26)) w1) (hg : g < w.heap.size) :
  DT w (w1.alloc (.cells #[.int .i64 0] 3)) g w.heap.size (w.heap.size + 1 + 1) [0] (.slice (some ⟨w1.heap.size, 0, none⟩) 1 1) [0] (.slice none 0 0) [] := by
 have hs := hf.size
 simp at hs
 have h2 := bx_fr (zAj (w := (w.alloc (.cells #[.slice none 0 0, .slice none 0 0] 26)).alloc (.cells #[.int .i64 0] 3)) (.cells #[.slice (some ⟨w.heap.size + 1, 0, none⟩) 1 1, .slice none 0 0] 26) (k := w.heap.size + 1 + 1) (by simp)) hf (by show ¬ _ = _; omega)
 have h1 := bx_fr (zAs (zAj (w := w.alloc (.cells #[.slice none 0 0, .slice none 0 0] 26)) (.cells #[.int .i64 0] 3) (k := w.heap.size + 1) (by simp)) (.cells #[.slice (some ⟨w.heap.size + 1, 0, none⟩) 1 1, .slice none 0 0] 26)) hf (by show ¬ _ = _; omega)
 have h0 := bx_fr (zAs (zAs (zAj (w := w) (.cells #[.slice none 0 0, .slice none 0 0] 26) rfl) (.cells #[.int .i64 0] 3)) (.cells #[.slice (some ⟨w.heap.size + 1, 0, none⟩) 1 1, .slice none 0 0] 26)) hf (by show ¬ _ = _; omega)
 refine ⟨⟨_, 1, zAs h2 _, own_lit (cs := [.int .i64 0]) (n := 1) (zAs h1 _) rfl (by decide) (by omega), fun k hk => ⟨?_, by simp [Value.ownBlock]⟩⟩, own_lit (cs := [.int .i64 0]) (n := 1) (zAj _ rfl) rfl (by decide) (by omega), own_nil _ _ _ _, fun k hk => by simp [Value.ownBlock], zAs h0 _, hc.alloc _, ?_, by omega, by simp, by simp⟩
 ·simp [Value.ownBlock] at hk ⊢; omega
 ·exact (((((Fr.refl _ w).alloc _).alloc _).alloc _).trans hf).alloc _
theorem DT.turn {w wr : World} {g b0 b : Nat} {ps ls xs : List Int} {L X : Value} (h : DT w wr g b0 b ps L ls X xs) : DT w wr g b0 b ps X xs (.slice none 0 0) [] := by
 obtain ⟨A, c, h1, h2, h3⟩ := h.box
 exact ⟨⟨A, c, h1, h2, fun k hk => ⟨(h3 k hk).2, by simp [Value.ownBlock]⟩⟩, h.next, own_nil _ _ _ _, fun k hk => by simp [Value.ownBlock], h.res, h.cur, h.fr, h.hb, h.nx, by simp⟩
theorem DT.put {w wr w1 : World} {g b0 b : Nat} {ps ls xs : List Int} {L X : Value} (h : DT w wr g b0 b ps L ls X xs) {x : Int} {A : Option Addr} {c : Nat} {v : Value}
  (h1 : wr.heap[b]? = some (.cells #[.slice A ps.length c, .slice none 0 0] 26 (0, 0))) (h2 : wr.ownsRow w.heap.size 3 1 (.slice A ps.length c) ps.length (ints ps))
  (h3 : ∀ k, (Value.slice A ps.length c).ownBlock = some k → L.ownBlock ≠ some k ∧ X.ownBlock ≠ some k)
  (hv : w1.ownsRow w.heap.size 3 1 v (ps.length + 1) (ints ps ++ [.int .i64 x])) (hg : wr.grownBy w1 (Value.slice A ps.length c).ownBlock) (hw : v.ownBlock = (Value.slice A ps.length c).ownBlock ∨ v.ownBlock = some wr.heap.size) :
  DT w (w1.setCell ⟨b, 0, none⟩ v) g b0 b (ps ++ [x]) L ls X xs := by
 obtain ⟨A', c', rfl, _⟩ := zAq hv
 have hh := h.hb
 have e1 : w1.heap[b]? = some (.cells #[.slice A ps.length c, .slice none 0 0] 26 (0, 0)) := zAp h1 hg (fun k hk => zAk h2 h1 (by decide) k hk)
 have eL : w1.ownsRow w.heap.size 3 1 L ls.length (ints ls) := zAx h.last hg (fun k hk e => (h3 k e).1 hk)
 have eX : w1.ownsRow w.heap.size 3 1 X xs.length (ints xs) := zAx h.next hg (fun k hk e => (h3 k e).2 hk)
 have hl : (ps ++ [x]).length = ps.length + 1 := by simp
 have hrow : ∀ k, (Value.slice A ps.length c).ownBlock = some k → w.heap.size ≤ k := fun k hk => zAu h2 k hk
 have hlt : ∀ Y n ys, wr.ownsRow w.heap.size 3 1 Y n ys → ∀ k, Y.ownBlock = some k → k < wr.heap.size := fun Y n ys hy k hk => own_lt hy k hk
 refine ⟨⟨A', c', ?_, ?_, ?_⟩, zAo eL (zAk eL e1 (by decide)) _, zAo eX (zAk eX e1 (by decide)) _, h.ap, bx_set (zAp h.res hg (fun k hk => zAk h2 h.res (by decide) k hk)) (by show b0 ≠ b; omega) _, ?_, ?_, h.hb, h.nl, h.nx⟩
 ·rw [hl]; exact topo_set0 e1 _
 ·rw [hl, ints_snoc]; exact zAo hv (zAk hv e1 (by decide)) _
 ·intro k hk
  rw [hl] at hk
  rcases hw with hw | hw
  ·rw [hw] at hk; exact h3 k hk
  ·rw [hw] at hk
   injection hk with hk
   exact ⟨fun e => by have := hlt _ _ _ h.last k e; omega, fun e => by have := hlt _ _ _ h.next k e; omega⟩
 ·exact (h.cur.grown hg (fun k hk => by have := hrow k hk; omega)).set (by show g < b; omega) _
 ·exact (h.fr.grown hg hrow).setCell (Or.inr (by show w.heap.size ≤ b; omega)) _
theorem DT.app {w wr w1 : World} {g b0 b : Nat} {ps ls xs : List Int} {L X : Value} (h : DT w wr g b0 b ps L ls X xs) {x : Int} (hx : 0 ≤ x) {v : Value}
  (hv : w1.ownsRow w.heap.size 3 1 v (xs.length + 1) (ints xs ++ [.int .i64 x])) (hg : wr.grownBy w1 X.ownBlock) (hw : v.ownBlock = X.ownBlock ∨ v.ownBlock = some wr.heap.size) :
  DT w w1 g b0 b ps L ls v (xs ++ [x]) := by
 obtain ⟨A, c, h1, h2, h3⟩ := h.box
 have hh := h.hb
 have hrow : ∀ k, X.ownBlock = some k → w.heap.size ≤ k := fun k hk => zAu h.next k hk
 refine ⟨⟨A, c, zAp h1 hg (fun k hk => zAk h.next h1 (by decide) k hk), zAx h2 hg (fun k hk e => (h3 k hk).2 e), ?_⟩, zAx h.last hg (fun k hk e => h.ap k hk e), ?_, ?_, zAp h.res hg (fun k hk => zAk h.next h.res (by decide) k hk), h.cur.grown hg (fun k hk => by have := hrow k hk; omega), h.fr.grown hg hrow, h.hb, h.nl, ?_⟩
 ·intro k hk
  refine ⟨(h3 k hk).1, ?_⟩
  rcases hw with hw | hw
  ·rw [hw]; exact (h3 k hk).2
  ·rw [hw]; intro e; injection e with e; have := own_lt h2 k hk; omega
 ·rw [ints_snoc, List.length_append]; exact hv
 ·intro k hk
  rcases hw with hw | hw
  ·rw [hw]; exact h.ap k hk
  ·rw [hw]; intro e; injection e with e; have := own_lt h.last k hk; omega
 ·intro y hy
  rcases List.mem_append.1 hy with hy | hy
  ·exact h.nx y hy
  ·simp at hy; omega
structure DN (w wr : World) (g b0 b : Nat) (ps : List Int) (ns : List Q) (L : Value) (ls : List Int) : Prop where
 box : TBox wr w.heap.size b ps ns
 last : wr.ownsRow w.heap.size 3 1 L ls.length (ints ls)
 res : wr.heap[b0]? = some (.cells #[.slice none 0 0, .slice none 0 0] 26 (0, 0))
 cur : Cur wr g
 fr : Fr (· = g) w wr
 hb : b0 < b ∧ w.heap.size ≤ b0 ∧ g < w.heap.size
 nl : ∀ x ∈ ls, 0 ≤ x
theorem DT.nodes {w wr : World} {g b0 b : Nat} {ps ls xs : List Int} {L X : Value} (h : DT w wr g b0 b ps L ls X xs) : DN w wr g b0 b ps [] L ls := by
 obtain ⟨A, c, h1, h2, h3⟩ := h.box
 exact ⟨⟨A, c, none, 0, h1, h2, own_nil _ _ _ _⟩, h.last, h.res, h.cur, h.fr, h.hb, h.nl⟩
theorem DN.bel {w wr w' : World} {g b0 b : Nat} {ps ls : List Int} {ns : List Q} {L : Value} (h : DN w wr g b0 b ps ns L ls) (hb : Below wr.heap.size wr w') : DN w w' g b0 b ps ns L ls :=
 ⟨h.box.bel hb, zAe h.last hb, zAf h.res hb, h.cur.below hb, h.fr.of_bel hb, h.hb, h.nl⟩
theorem DN.cs {w wr w' : World} {g b0 b : Nat} {ps ls : List Int} {ns : List Q} {L : Value} (h : DN w wr g b0 b ps ns L ls) (hf : Fr (· = g) wr w') (hc : Cur w' g) : DN w w' g b0 b ps ns L ls := by
 have hh := h.hb
 exact ⟨h.box.fr hf (by omega) (fun k hk => by omega), own_fr h.last hf (fun k hk e => by have := zAu h.last k hk; omega), bx_fr h.res hf (by omega), hc, h.fr.trans hf, h.hb, h.nl⟩
theorem DN.put {w wr w1 : World} {g b0 b : Nat} {ps ls : List Int} {ns : List Q} {L : Value} (h : DN w wr g b0 b ps ns L ls) {q : Q} {A B : Option Addr} {c d : Nat} {v : Value}
  (h1 : wr.heap[b]? = some (.cells #[.slice A ps.length c, .slice B ns.length d] 26 (0, 0))) (h2 : wr.ownsRow w.heap.size 3 1 (.slice A ps.length c) ps.length (ints ps)) (h3 : wr.ownsRow w.heap.size 199 4 (.slice B ns.length d) ns.length (flat ns))
  (hv : w1.ownsRow w.heap.size 199 4 v (ns.length + 1) (flat ns ++ [.int .i64 q.t, .int .i64 q.a, .int .i64 q.b, .int .i64 q.c])) (hg : wr.grownBy w1 (Value.slice B ns.length d).ownBlock) : DN w (w1.setCell ⟨b, 1, none⟩ v) g b0 b ps (ns ++ [q]) L ls := by
 have hh := h.hb
 have hrow : ∀ k, (Value.slice B ns.length d).ownBlock = some k → w.heap.size ≤ k := fun k hk => zAu h3 k hk
 have e1 : w1.heap[b]? = some (.cells #[.slice A ps.length c, .slice B ns.length d] 26 (0, 0)) := zAp h1 hg (fun k hk => zAk h3 h1 (by decide) k hk)
 have eL := zAx h.last hg (fun k hk e => own_ap h3 h.last (by decide) k e hk)
 exact ⟨TBox.put1 h1 h2 h3 hv hg, zAo eL (zAk eL e1 (by decide)) _, bx_set (zAp h.res hg (fun k hk => zAk h3 h.res (by decide) k hk)) (by show b0 ≠ b; omega) _,
  (h.cur.grown hg (fun k hk => by have := hrow k hk; omega)).set (by show g < b; omega) _, (h.fr.grown hg hrow).setCell (Or.inr (by show w.heap.size ≤ b; omega)) _, h.hb, h.nl⟩
def rI (lo hi : Int) : Value → World → Prop := fun u _ => ∃ x : Int, u = .int .i64 x ∧ lo ≤ x ∧ x ≤ hi
def rV : Value → World → Prop := fun u _ => ∃ a b c : Int, u = .agg #[.int .i64 a, .int .i64 b, .int .i64 c]
def rN (x : Int) : Value → World → Prop := fun u _ => ∃ a b c : Int, u = .agg #[.int .i64 x, .int .i64 a, .int .i64 b, .int .i64 c]
def rB (x : Int) (g : Nat) : Value → World → Prop := fun u w => ∃ (k : Nat) (a b c : Int), u = .slice (some ⟨k, 0, none⟩) 1 1 ∧ w.heap[k]? = some (.cells #[.int .i64 x, .int .i64 a, .int .i64 b, .int .i64 c] 199 (0, 0)) ∧ g < k
theorem rB_fr {x : Int} {g : Nat} {u : Value} {w w' : World} (h : rB x g u w) (hf : Fr (· = g) w w') : rB x g u w' := by
 obtain ⟨k, a, b, c, h1, h2, h3⟩ := h
 exact ⟨k, a, b, c, h1, bx_fr h2 hf (by show ¬ _ = _; omega), h3⟩
structure JN (w wr : World) (g b0 b : Nat) (ps : List Int) (ns : List Q) (L : Value) (ls : List Int) (A B : Option Addr) (c d : Nat) : Prop where
 dn : DN w wr g b0 b ps ns L ls
 bx : wr.heap[b]? = some (.cells #[.slice A ps.length c, .slice B ns.length d] 26 (0, 0))
 oa : wr.ownsRow w.heap.size 3 1 (.slice A ps.length c) ps.length (ints ps)
 ob : wr.ownsRow w.heap.size 199 4 (.slice B ns.length d) ns.length (flat ns)
theorem JN.bel {w wr w' : World} {g b0 b : Nat} {ps : List Int} {ns : List Q} {L : Value} {ls : List Int} {A B : Option Addr} {c d : Nat} (h : JN w wr g b0 b ps ns L ls A B c d) (hb : Below wr.heap.size wr w') : JN w w' g b0 b ps ns L ls A B c d :=
 ⟨h.dn.bel hb, zAf h.bx hb, zAe h.oa hb, zAe h.ob hb⟩
theorem JN.cs {w wr w' : World} {g b0 b : Nat} {ps : List Int} {ns : List Q} {L : Value} {ls : List Int} {A B : Option Addr} {c d : Nat} (h : JN w wr g b0 b ps ns L ls A B c d) (hf : Fr (· = g) wr w') (hc : Cur w' g) : JN w w' g b0 b ps ns L ls A B c d := by
 have hh := h.dn.hb
 exact ⟨h.dn.cs hf hc, bx_fr h.bx hf (by omega), own_fr h.oa hf (fun k hk e => by have := zAu h.oa k hk; omega), own_fr h.ob hf (fun k hk e => by have := zAu h.ob k hk; omega)⟩
theorem infoNd : (Tryz.prog.info? 199).map (fun i => (i.zero, i.size, i.bytes)) = some (some (.agg #[.int .i64 0, .int .i64 0, .int .i64 0, .int .i64 0]), 4, 32) := by kernel_rfl
set_option maxHeartbeats 8000000 in
set_option maxRecDepth 20000 in
theorem cur_topo (g : Nat) (w : World) (h : Cur w g) :
  Calls Tryz.prog 215 #[.pointer (some ⟨g, 0, none⟩)] w fun e w' => ∃ (A B : Option Addr) (c d : Nat) (ps : List Int) (ns : List Q), e = .returned (.agg #[.slice A ps.length c, .slice B ns.length d]) ∧ 1 ≤ ps.length ∧ ps.length ≤ 18 ∧ ns.length ≤ 10 ∧ w'.ownsRow w.heap.size 3 1 (.slice A ps.length c) ps.length (ints ps) ∧ w'.ownsRow w.heap.size 199 4 (.slice B ns.length d) ns.length (flat ns) ∧ Cur w' g ∧ Fr (· = g) w w' := by
 have C := Lib.hid h
 have hgw := h.lt
 clear h
 go_enter Tryz.func215, Tryz.ntmps215
 go_wp2_with fail
 refine (zAt g 3 _ (by repeat (first | exact C.out | refine Cur.alloc ?_ _ | refine Cur.drewN ?_ _ | refine Cur.drew ?_ | refine Cur.set ?_ (by simp <;> omega) _)) (by omega) (by omega)).mono ?_
 rintro e w1 ⟨x1, rfl, a1, q1, cu1, fr1⟩
 have hs1 := fr1.size
 (try simp at hs1)
 have hy10 : w.heap.size < w1.heap.size := by omega
 have hk10 := fun o => fr1.cell (b := w.heap.size) zOm (by omega) o
 have hg10 := fun o => fr1.frozen (b := w.heap.size) zOm (by omega) o
 have hy11 : w.heap.size + 1 < w1.heap.size := by omega
 have hk11 := fun o => fr1.cell (b := w.heap.size + 1) zOm (by omega) o
 have hg11 := fun o => fr1.frozen (b := w.heap.size + 1) zOm (by omega) o
 have hy12 : w.heap.size + 1 + 1 < w1.heap.size := by omega
 have hk12 := fun o => fr1.cell (b := w.heap.size + 1 + 1) zOm (by omega) o
 have hg12 := fun o => fr1.frozen (b := w.heap.size + 1 + 1) zOm (by omega) o
 have C1 := Lib.hid cu1
 have hgl1 := cu1.lt
 clear cu1
 have T0 := Lib.hid (DT.start C1.out fr1 hgw)
 clear hk10 hk11 hk12 hg10 hg11 hg12 fr1 hs1
 go_wp2
 go_loopw [5, 6] (fun L i wr => ∃ (k : Nat) (ps ls : List Int), (k : Int) ≤ x1 ∧ i = .int .i64 k ∧ 1 ≤ ps.length ∧ ps.length ≤ 18 ∧ 1 ≤ ls.length ∧ ls.length ≤ 18 ∧ DT w wr g w.heap.size (w.heap.size + 1 + 1) ps L ls (.slice none 0 0) []) (fun _ i _ => 3 - (intOf i).toNat)
 case atStart => exact ⟨0, [0], [0], by omega, rfl, by simp, by simp, by simp, by simp, T0.out⟩
 case round =>
  obtain ⟨k, ps, ls, hk, rfl, hp1, hp2, hl1, hl2, T'⟩ := hrel
  have T := Lib.hid T'
  clear T'
  obtain ⟨AL, cL, rfl, rdL⟩ := zAq T.out.last
  clear rdL
  by_cases hlt : (k : Int) < x1
  ·have T1 := Lib.hid (T.out.fresh)
   go_wp2
   go_loopw [7, 26] (fun X i wi => ∃ (j : Nat) (ps xs : List Int), j ≤ ls.length ∧ i = .int .i64 j ∧ 1 ≤ ps.length ∧ ps.length ≤ 18 ∧ xs.length + 1 ≤ ps.length ∧ DT w wi g w.heap.size (w.heap.size + 1 + 1) ps (.slice AL ls.length cL) ls X xs) (fun _ i _ => ls.length - (intOf i).toNat)
   case atStart => exact ⟨0, ps, [], Nat.zero_le _, rfl, hp1, hp2, by simp; omega, T1.out⟩
   case round =>
    clear T1 T hp1 hp2
    obtain ⟨j, ps, xs, hj, rfl, hp1, hp2, hxl, T'⟩ := hrel
    have T := Lib.hid T'
    clear T'
    by_cases hjl : j < ls.length
    ·have hjl' : (j : Int) < ls.length := by omega
     obtain ⟨g1, x, rfl, hx, cx⟩ := Rd.int (zAn T.out.last) hjl
     have hg1 := zAz T.out.last g1 rfl
     go_wp2_with fail
     refine (zAt g 3 _ T.out.cur (by omega) (by omega)).mono ?_
     rintro e w2 ⟨x2, rfl, a2, q2, cu2, fr2⟩
     have T2 := Lib.hid (T.out.cs fr2 cu2)
     clear fr2 cu2
     clear cx
     go_wp2
     go_loopw [7, 10] (fun X n wi => ∃ (m : Int) (ps xs : List Int), 0 ≤ m ∧ m ≤ 3 ∧ n = .int .i64 m ∧ 1 ≤ ps.length ∧ ps.length ≤ 18 ∧ xs.length + 1 ≤ ps.length ∧ DT w wi g w.heap.size (w.heap.size + 1 + 1) ps (.slice (some ⟨g1, 0, none⟩) ls.length cL) ls X xs) (fun _ n _ => (intOf n).toNat)
     case atStart => exact ⟨1 + x2, ps, xs, by omega, by omega, rfl, hp1, hp2, hxl, T2.out⟩
     case round =>
      clear T2 T hp1 hp2 hxl
      obtain ⟨m, ps, xs, hm0, hm3, rfl, hp1, hp2, hxl, T'⟩ := hrel
      have T := Lib.hid T'
      clear T'
      obtain ⟨A5, c5, h1, h2, h3⟩ := T.out.box
      have hlw := zAg h1
      have k0 := zAb h1 0 rfl
      have kf := zAh h1
      simp only [zgc, zga, zgb] at k0
      have H1 := Lib.hid h1
      have H2 := Lib.hid h2
      have H3 := Lib.hid h3
      clear h1 h2 h3
      by_cases hm : 0 < m
      ·by_cases hp : ps.length < 18
       ·have hp' : (ps.length : Int) < 18 := by omega
        obtain ⟨i0, hi, hz0, hz1, hz2⟩ := info_parts infoI
        go_wp2_with (at_builtin; refine wpList_append_own_at _ rfl _ _ 23 rfl (w.heap.size) 3 i0 (.int .i64 0) 1 8 Tryz.underlying23 hi hz0 hz1 hz2 rfl (by decide) _ _ _ rfl (zAe H2.out (zAa _ _)) ⟨wr.heap.size, 0, none⟩ 1 1 [.int .i64 x] rfl rfl ?ca1 ?ca2 ?ca3 ?ca4 ?ca5 ?_)
        try case ca1 =>
         intro j y hy
         match j, hy with
         | 0, hy => (simp at hy; subst hy; simp [Addr.add])
        try case ca2 => simp [Value.oneCell']
        case ca3 => unfold maxLen; skip; omega
        case ca4 => skip; omega
        try case ca5 => first | omega | (simp <;> omega)
        intro v5 w5 own5 hg5 _ hw5
        have al := zAa wr (.cells #[.int .i64 x] 3)
        have T5' := (T.out.bel al).put (zAf H1.out al) (zAe H2.out al) H3.out own5 hg5 (hw5.imp_right (fun h => h.trans (by simp)))
        obtain ⟨A6, c6, rfl, rd6⟩ := zAq own5
        have e5 := zAp (zAf H1.out al) hg5 (zAk (zAe H2.out al) (zAf H1.out al) (by decide))
        have g0 := zAb e5 0 rfl
        have gf := zAh e5
        simp only [zgc, zga, zgb] at g0
        clear rd6 own5 hi hz0 hz1 hz2 k0 kf H1 H2 H3 hg5 e5 al hw5
        go_upto_region 15 with fail
        obtain ⟨ps', hps'⟩ : ∃ p, p = ps ++ [x] := ⟨_, rfl⟩
        have hp1' : 1 ≤ ps'.length := by rw [hps']; simp
        have hp2' : ps'.length ≤ 18 := by rw [hps']; simp; omega
        have hxl' : xs.length + 2 ≤ ps'.length := by rw [hps']; simp; omega
        rw [← hps'] at T5'
        have T5 := Lib.hid T5'
        clear T5' hps' g0 gf T
        generalize w5.setCell _ _ = w6 at *
        clear hlw
        obtain ⟨A5, c5, h1, h2, h3⟩ := T5.out.box
        have hlw := zAg h1
        have k0 := zAb h1 0 rfl
        have kf := zAh h1
        simp only [zgc, zga, zgb] at k0
        have H1 := Lib.hid h1
        have H2 := Lib.hid h2
        have H3 := Lib.hid h3
        clear h1 h2 h3
        obtain ⟨i0, hi, hz0, hz1, hz2⟩ := info_parts infoI
        have hp9 : 0 ≤ (ps'.length : Int) - 1 := by omega
        go_wp2_with (at_builtin; refine wpList_append_own_at _ rfl _ _ 23 rfl (w.heap.size) 3 i0 (.int .i64 0) 1 8 Tryz.underlying23 hi hz0 hz1 hz2 rfl (by decide) _ _ _ rfl (zAe T5.out.next (zAa _ _)) ⟨w6.heap.size, 0, none⟩ 1 1 [.int .i64 ((ps'.length : Int) - 1)] rfl rfl ?cb1 ?cb2 ?cb3 ?cb4 ?cb5 ?_)
        try case cb1 =>
         intro j y hy
         match j, hy with
         | 0, hy => (simp at hy; subst hy; simp [Addr.add])
        try case cb2 => simp [Value.oneCell']
        case cb3 => unfold maxLen; skip; omega
        case cb4 => skip; omega
        try case cb5 => first | omega | (simp <;> omega)
        intro v7 w7 own7 hg7 _ hw7
        have al := zAa w6 (.cells #[.int .i64 ((ps'.length : Int) - 1)] 3)
        have T7 := Lib.hid ((T5.out.bel al).app (x := (ps'.length : Int) - 1) hp9 own7 hg7 (hw7.imp_right (fun h => h.trans (by simp))))
        clear hi hz0 hz1 hz2 k0 kf H1 H2 H3 hg7 al hw7 own7 T5
        go_wp2
        go_roundw
        case rel => exact ⟨m - 1, ps', xs ++ [(ps'.length : Int) - 1], by omega, by omega, rfl, hp1', hp2', by simp; omega, T7.out⟩
        case measure => simp [intOf]; omega
       ·have hp' : ¬ (ps.length : Int) < 18 := by omega
        go_wp2
        go_roundw
        case rel => exact ⟨j + 1, ps, xs, by omega, by go_num, hp1, hp2, hxl, T.out⟩
        case measure => simp [intOf]; omega
      ·go_wp2
       go_roundw
       case rel => exact ⟨j + 1, ps, xs, by omega, by go_num, hp1, hp2, hxl, T.out⟩
       case measure => simp [intOf]; omega
    ·have hjl' : ¬ (j : Int) < ls.length := by omega
     obtain ⟨AX, cX, rfl, rdX⟩ := zAq T.out.next
     clear rdX
     by_cases hx0 : 0 < xs.length
     ·have hx0' : (0 : Int) < xs.length := by omega
      go_wp2
      go_roundw
      case rel => exact ⟨k + 1, ps, xs, by omega, by go_num, hp1, hp2, by omega, by omega, T.out.turn⟩
      case measure => simp [intOf]; omega
     ·have hx0' : ¬ (0 : Int) < xs.length := by omega
      go_wp2
      go_roundw
      case rel => exact ⟨k + 1, ps, ls, by omega, by go_num, hp1, hp2, hl1, hl2, T.out.setNext (own_nil _ _ _ _) (Or.inl rfl)⟩
      case measure => simp [intOf]; omega
  ·have T2 := Lib.hid T.out.nodes
   clear T T0
   go_wp2_with fail
   refine (zAt g 10 _ T2.out.cur (by omega) (by omega)).mono ?_
   rintro e w9 ⟨x9, rfl, a9, q9, cu9, fr9⟩
   have T3 := Lib.hid (T2.out.cs fr9 cu9)
   clear fr9 cu9
   go_wp2
   go_loopw [11] (fun n wi => ∃ (m : Int) (ns : List Q), 0 ≤ m ∧ m + ns.length ≤ 10 ∧ n = .int .i64 m ∧ DN w wi g w.heap.size (w.heap.size + 1 + 1) ps ns (.slice AL ls.length cL) ls) (fun n _ => (intOf n).toNat)
   case atStart => exact ⟨1 + x9, [], by omega, by simp; omega, rfl, T3.out⟩
   case round =>
    obtain ⟨m, ns, hm0, hmn, rfl, T'⟩ := hrel
    have T := Lib.hid T'
    clear T' T3 T2
    by_cases hm : 0 < m
    ·skip
     go_wp2_with fail
     refine (zAt g (ls.length : Int) _ T.out.cur (by omega) (by omega)).mono ?_
     rintro e w2 ⟨x2, rfl, a2, q2, cu2, fr2⟩
     have T2 := Lib.hid (T.out.cs fr2 cu2)
     clear fr2 cu2
     clear T
     obtain ⟨y, rfl⟩ : ∃ y : Nat, x2 = y := ⟨x2.toNat, by omega⟩
     have hy : y < ls.length := by omega
     obtain ⟨g1, x, rfl, hx, cx⟩ := Rd.int (zAn T2.out.last) hy
     have hg1 := zAz T2.out.last g1 rfl
     have hx0 := T2.out.nl x (List.mem_of_getElem? hx)
     clear hx
     obtain ⟨sx, rfl⟩ : ∃ n : Nat, x = n := ⟨x.toNat, by omega⟩
     obtain ⟨A5, c5, B5, d5, h1, h2, h3⟩ := T2.out.box.ex
     have hlw := zAg h1
     have k0 := zAb h1 0 rfl
     have k1 := zAb h1 1 rfl
     have kf := zAh h1
     simp only [zgc, zga, zgb] at k0 k1
     have H1 := Lib.hid h1
     have H2 := Lib.hid h2
     have H3 := Lib.hid h3
     clear h1 h2 h3
     go_wp2_with fail
     refine (kids_any A5 B5 _ c5 _ d5 ps sx _ (by omega) (zAn H2.out) (zAz H2.out)).mono ?_
     rintro e w3 ⟨v3, rfl, own3, hb3⟩
     obtain ⟨A3, c3, rfl, rd3⟩ := zAq own3
     have T4 := Lib.hid (T2.out.bel hb3)
     clear own3 rd3 hb3 T2 k0 k1 kf H1 H2 H3 hlw cx hg1
     generalize (kids ps sx).length = K
     obtain ⟨A6, c6, B6, d6, h1, h2, h3⟩ := T4.out.box.ex
     have hlw := zAg h1
     have k0 := zAb h1 0 rfl
     have k1 := zAb h1 1 rfl
     have kf := zAh h1
     simp only [zgc, zga, zgb] at k0 k1
     have H1 := Lib.hid h1
     have H2 := Lib.hid h2
     have H3 := Lib.hid h3
     clear h1 h2 h3
     by_cases hK : K = 0
     ·subst hK
      go_upto_region 24 with fail
      have TJ : Hid (JN w w3 g w.heap.size (w.heap.size + 1 + 1) ps ns (.slice (some ⟨g1, 0, none⟩) ls.length cL) ls A6 B6 c6 d6) := Lib.hid ⟨T4.out, H1.out, H2.out, H3.out⟩
      refine wp_region_tail 14 (fun w' => JN w w' g w.heap.size (w.heap.size + 1 + 1) ps ns (.slice (some ⟨g1, 0, none⟩) ls.length cL) ls A6 B6 c6 d6) (Fr (· = g)) (by kernel_rfl) (by kernel_rfl) (TJ.out.bel (zAd _ 1)) ?_
      clear k0 k1 kf hlw
      show Det _ _ _ _ _ _ (_ :: _ :: _ :: _ :: _ :: _ :: _ :: _ :: _ :: _ :: _ :: _ :: _ :: _ :: []) _ _
      refine Det.val ?_ rfl ?_ (Fr.refl _) ?_
      rotate_left
      ·intro f w9 hJ
       skip
       go_simp
       with_reducible rfl
      (try simp only [putA, zgd, zgf, zge, zgg])
      refine Det.val ?_ rfl ?_ (Fr.refl _) ?_
      rotate_left
      ·intro f w9 hJ
       have k1 := zAb hJ.bx 1 rfl; have kf := zAh hJ.bx; simp only [zgc, zga, zgb] at k1
       go_simp
       with_reducible rfl
      (try simp only [putA, zgd, zgf, zge, zgg])
      refine Det.val ?_ rfl ?_ (Fr.refl _) ?_
      rotate_left
      ·intro f w9 hJ
       skip
       go_simp
       with_reducible rfl
      (try simp only [putA, zgd, zgf, zge, zgg])
      refine Det.val ?_ rfl ?_ (Fr.refl _) ?_
      rotate_left
      ·intro f w9 hJ
       skip
       go_simp
       with_reducible rfl
      (try simp only [putA, zgd, zgf, zge, zgg])
      refine Det.flo (rI 0 4) rfl rfl (fun _ _ _ h _ => h) ?_ ?_
      ·intro f w9 K hJ hR hK
       have HK := Lib.hid hK
       clear hK hR
       go_simp
       go_at_call 132
       refine (zAt g 5 _ hJ.dn.cur (by omega) (by omega)).mono ?_
       rintro e w10 ⟨x, rfl, h0, h1, cu, fr⟩
       exact HK.out _ _ (hJ.cs fr cu) fr ⟨x, rfl, by omega, by omega⟩
      (try simp only [putA, zgd, zgf, zge, zgg])
      refine Det.flo (rI 4 8) rfl rfl (fun _ _ _ h _ => h) ?_ ?_
      ·intro f w9 K hJ hR hK
       obtain ⟨y, hy9, y0, y1⟩ := hR (84, rI 0 4) (by simp [addF, dropF]) (by show (84 : Nat) ∈ _; decide)
       simp only [hy9] at hK
       have HK := Lib.hid hK
       clear hK
       clear hR
       have hwr : IntKind.i64.wrap (4 + y) = 4 + y := IntWalk.i64_in _ (by omega)
       go_simp
       exact HK.out _ _ hJ (Fr.refl _ _) ⟨4 + y, rfl, by omega, by omega⟩
      (try simp only [putA, zgd, zgf, zge, zgg])
      refine Det.val ?_ rfl ?_ (Fr.refl _) ?_
      rotate_left
      ·intro f w9 hJ
       skip
       go_simp
       with_reducible rfl
      (try simp only [putA, zgd, zgf, zge, zgg])
      refine Det.flo (rI 0 8) rfl rfl (fun _ _ _ h _ => h) ?_ ?_
      ·intro f w9 K hJ hR hK
       have HK := Lib.hid hK
       clear hK hR
       go_simp
       go_at_call 132
       refine (zAt g 9 _ hJ.dn.cur (by omega) (by omega)).mono ?_
       rintro e w10 ⟨x, rfl, h0, h1, cu, fr⟩
       exact HK.out _ _ (hJ.cs fr cu) fr ⟨x, rfl, by omega, by omega⟩
      (try simp only [putA, zgd, zgf, zge, zgg])
      refine Det.flo (rI 8 16) rfl rfl (fun _ _ _ h _ => h) ?_ ?_
      ·intro f w9 K hJ hR hK
       obtain ⟨y, hy9, y0, y1⟩ := hR (87, rI 0 8) (by simp [addF, dropF]) (by show (87 : Nat) ∈ _; decide)
       simp only [hy9] at hK
       have HK := Lib.hid hK
       clear hK
       clear hR
       have hwr : IntKind.i64.wrap (8 + y) = 8 + y := IntWalk.i64_in _ (by omega)
       go_simp
       exact HK.out _ _ hJ (Fr.refl _ _) ⟨8 + y, rfl, by omega, by omega⟩
      (try simp only [putA, zgd, zgf, zge, zgg])
      refine Det.val ?_ rfl ?_ (Fr.refl _) ?_
      rotate_left
      ·intro f w9 hJ
       skip
       go_simp
       with_reducible rfl
      (try simp only [putA, zgd, zgf, zge, zgg])
      refine Det.flo (rI 0 2) rfl rfl (fun _ _ _ h _ => h) ?_ ?_
      ·intro f w9 K hJ hR hK
       have HK := Lib.hid hK
       clear hK hR
       go_simp
       go_at_call 132
       refine (zAt g 3 _ hJ.dn.cur (by omega) (by omega)).mono ?_
       rintro e w10 ⟨x, rfl, h0, h1, cu, fr⟩
       exact HK.out _ _ (hJ.cs fr cu) fr ⟨x, rfl, by omega, by omega⟩
      (try simp only [putA, zgd, zgf, zge, zgg])
      refine Det.flo (rV) rfl rfl (fun _ _ _ h _ => h) ?_ ?_
      ·intro f w9 K hJ hR hK
       obtain ⟨ya, hya, -, -⟩ := hR (85, rI 4 8) (by simp [addF, dropF]) (by show (85 : Nat) ∈ _; decide)
       simp only [hya] at hK
       obtain ⟨yb, hyb, -, -⟩ := hR (88, rI 8 16) (by simp [addF, dropF]) (by show (88 : Nat) ∈ _; decide)
       simp only [hyb] at hK
       obtain ⟨yc, hyc, -, -⟩ := hR (90, rI 0 2) (by simp [addF, dropF]) (by show (90 : Nat) ∈ _; decide)
       simp only [hyc] at hK
       have HK := Lib.hid hK
       clear hK
       clear hR
       skip
       go_simp
       exact HK.out _ _ hJ (Fr.refl _ _) ⟨_, _, _, rfl⟩
      (try simp only [putA, zgd, zgf, zge, zgg])
      refine Det.flo (rN sx) rfl rfl (fun _ _ _ h _ => h) ?_ ?_
      ·intro f w9 K hJ hR hK
       obtain ⟨ya, yb, yc, hya⟩ := hR (91, rV) (by simp [addF, dropF]) (by show (91 : Nat) ∈ _; decide)
       simp only [hya] at hK
       have HK := Lib.hid hK
       clear hK
       clear hR
       skip
       go_simp
       exact HK.out _ _ hJ (Fr.refl _ _) ⟨_, _, _, rfl⟩
      (try simp only [putA, zgd, zgf, zge, zgg])
      refine Det.flo (rB sx g) rfl rfl (fun _ _ _ h hf => rB_fr h hf) ?_ ?_
      ·intro f w9 K hJ hR hK
       obtain ⟨ya, yb, yc, hya⟩ := hR (92, rN sx) (by simp [addF, dropF]) (by show (92 : Nat) ∈ _; decide)
       simp only [hya] at hK
       have HK := Lib.hid hK
       clear hK
       clear hR
       have hgl9 := hJ.dn.cur.lt
       go_simp
       exact HK.out _ _ (hJ.bel (zAa _ _)) ((Fr.refl _ _).alloc _) ⟨_, _, _, _, rfl, zAj _ rfl, hgl9⟩
      (try simp only [putA, zgd, zgf, zge, zgg])
      refine Det.nil ?_
      intro f w9 hJ hR
      obtain ⟨kk, ya, yb, yc, h93, hb93, hgk⟩ := hR (93, rB sx g) (by simp [addF, dropF])
      clear hR
      simp only [h93]
      clear h93
      have hnl := zAg hb93
      have n0 := zAb hb93 0 rfl
      have n1 := zAb hb93 1 rfl
      have n2 := zAb hb93 2 rfl
      have n3 := zAb hb93 3 rfl
      have k0 := zAb hJ.bx 0 rfl
      have k1 := zAb hJ.bx 1 rfl
      have kf := zAh hJ.bx
      simp only [zgc, zga, zgb] at k0 k1 n0 n1 n2 n3
      have TH := Lib.hid hJ
      clear hJ hb93 TJ H1 H2 H3 T4
      obtain ⟨i0, hi, hz0, hz1, hz2⟩ := info_parts infoNd
      show wpList _ _ _ (_ :: _ :: _ :: []) _ _
      have hlo9 : w.heap.size ≤ w9.heap.size := TH.out.dn.fr.size
      go_wp2_with (at_builtin; refine wpList_append_own _ rfl _ _ 24 rfl (w.heap.size) 199 i0 (.agg #[.int .i64 0, .int .i64 0, .int .i64 0, .int .i64 0]) 4 32 Tryz.underlying24 hi hz0 hz1 hz2 rfl (by decide) _ _ _ rfl (TH.out.ob) ⟨kk, 0, none⟩ 1 1 [.int .i64 sx, .int .i64 ya, .int .i64 yb, .int .i64 yc] rfl rfl ?cn1 ?cn2 ?cn3 ?cn4 ?cn5 ?_)
      try case cn1 =>
       intro j y hy
       match j, hy with
       | 0, hy => (simp at hy; subst hy; simp [Addr.add, n0, n1, n2, n3])
       | 1, hy => (simp at hy; subst hy; simp [Addr.add, n0, n1, n2, n3])
       | 2, hy => (simp at hy; subst hy; simp [Addr.add, n0, n1, n2, n3])
       | 3, hy => (simp at hy; subst hy; simp [Addr.add, n0, n1, n2, n3])
      try case cn2 => simp [Value.oneCell']
      case cn3 => unfold maxLen; skip; omega
      case cn4 => skip; omega
      try case cn5 => first | omega | (simp <;> omega)
      intro v6 w6 own6 hg6 _
      have T7' := TH.out.dn.put (q := ⟨sx, ya, yb, yc⟩) TH.out.bx TH.out.oa TH.out.ob own6 hg6
      obtain ⟨A7, c7, rfl, rd7⟩ := zAq own6
      have e6 := zAp TH.out.bx hg6 (zAk TH.out.ob TH.out.bx (by decide))
      have g0 := zAb e6 0 rfl
      have g1' := zAb e6 1 rfl
      have gf := zAh e6
      simp only [zgc, zga, zgb] at g0 g1'
      have T7 := Lib.hid T7'
      clear T7' rd7 own6 hi hz0 hz1 hz2 k0 k1 kf n0 n1 n2 n3 hg6 e6 TH
      go_upto_region 21 with fail
      clear g0 g1' gf
      generalize w6.setCell _ _ = w7 at *
      go_wp2
      go_roundw
      case rel => exact ⟨m - 1, ns ++ [⟨sx, ya, yb, yc⟩], by omega, by simp; omega, rfl, T7.out⟩
      case measure => simp [intOf]; omega
     ·have hK' : ¬ (K : Int) = 0 := by omega
      go_wp2
      go_roundw
      case rel => exact ⟨m - 1, ns, by omega, by omega, rfl, T4.out⟩
      case measure => simp [intOf]; omega
    ·skip
     obtain ⟨A5, c5, B5, d5, h1, h2, h3⟩ := T.out.box.ex
     have hlw := zAg h1
     have k0 := zAb h1 0 rfl
     have k1 := zAb h1 1 rfl
     have kf := zAh h1
     simp only [zgc, zga, zgb] at k0 k1
     have H1 := Lib.hid h1
     have H2 := Lib.hid h2
     have H3 := Lib.hid h3
     clear h1 h2 h3
     have r0 := zAb T.out.res 0 rfl
     have r1 := zAb T.out.res 1 rfl
     have rf := zAh T.out.res
     simp only [zgc, zga, zgb] at r0 r1
     go_wp2
     (try go_light)
     refine bodyPost_ret (v := .agg #[.slice A5 ps.length c5, .slice B5 ns.length d5]) (by simp [results, Tryz.results215, go_sem, *]) rfl ?_
     refine ⟨A5, B5, c5, d5, ps, ns, rfl, hp1, hp2, by omega, ?_, ?_, ?_, ?_⟩
     ·exact zAo (zAo H2.out (zAk H2.out T.out.res (by decide)) _) (zAk H2.out T.out.res (by decide)) _
     ·exact zAo (zAo H3.out (zAk H3.out T.out.res (by decide)) _) (zAk H3.out T.out.res (by decide)) _
     ·exact (T.out.cur.set hgw _).set hgw _
     ·exact (T.out.fr.setCell (Or.inr (Nat.le_refl _)) _).setCell (Or.inr (Nat.le_refl _)) _
theorem ints_set (ps : List Int) (i : Nat) (x : Int) : (ints ps).set i (.int .i64 x) = ints (ps.set i x) := by simp [ints, List.map_set]
structure JT (w wr : World) (g b0 b : Nat) (ps : List Int) (ns : List Q) (A B : Option Addr) (c d : Nat) : Prop where
 bx : wr.heap[b]? = some (.cells #[.slice A ps.length c, .slice B ns.length d] 26 (0, 0))
 oa : wr.ownsRow w.heap.size 3 1 (.slice A ps.length c) ps.length (ints ps)
 ob : wr.ownsRow w.heap.size 199 4 (.slice B ns.length d) ns.length (flat ns)
 res : wr.heap[b0]? = some (.cells #[.slice none 0 0, .slice none 0 0] 26 (0, 0))
 cur : Cur wr g
 fr : Fr (· = g) w wr
 hb : b0 < b ∧ w.heap.size ≤ b0 ∧ g < w.heap.size
theorem JT.bel {w wr w' : World} {g b0 b : Nat} {ps : List Int} {ns : List Q} {A B : Option Addr} {c d : Nat} (h : JT w wr g b0 b ps ns A B c d) (hb : Below wr.heap.size wr w') : JT w w' g b0 b ps ns A B c d :=
 ⟨zAf h.bx hb, zAe h.oa hb, zAe h.ob hb, zAf h.res hb, h.cur.below hb, h.fr.of_bel hb, h.hb⟩
theorem JT.cs {w wr w' : World} {g b0 b : Nat} {ps : List Int} {ns : List Q} {A B : Option Addr} {c d : Nat} (h : JT w wr g b0 b ps ns A B c d) (hf : Fr (· = g) wr w') (hc : Cur w' g) : JT w w' g b0 b ps ns A B c d := by
 have hh := h.hb
 exact ⟨bx_fr h.bx hf (by omega), own_fr h.oa hf (fun k hk e => by have := zAu h.oa k hk; omega), own_fr h.ob hf (fun k hk e => by have := zAu h.ob k hk; omega), bx_fr h.res hf (by omega), hc, h.fr.trans hf, hh⟩
theorem JT.seti {w wr : World} {g b0 b g1 : Nat} {ps : List Int} {ns : List Q} {B : Option Addr} {c d : Nat} (h : JT w wr g b0 b ps ns (some ⟨g1, 0, none⟩) B c d) {i : Nat} (hi : i < ps.length) (x : Int) : JT w (wr.setCell ⟨g1, i, none⟩ (.int .i64 x)) g b0 b (ps.set i x) ns (some ⟨g1, 0, none⟩) B c d := by
 have hh := h.hb
 have hg1 := zAu h.oa g1 rfl
 have hl : (ps.set i x).length = ps.length := by simp
 refine ⟨?_, ?_, zAo h.ob (fun k hk e => own_ap h.ob h.oa (by decide) k hk (by rw [e]; rfl)) _, bx_set h.res (fun e => zAk h.oa h.res (by decide) g1 rfl e.symm) _, h.cur.set (by show g < g1; omega) _, h.fr.setCell (Or.inr hg1) _, hh⟩
 ·rw [hl]; exact bx_set h.bx (fun e => zAk h.oa h.bx (by decide) g1 rfl e.symm) _
 ·rw [hl, ← ints_set]; exact own_put h.oa (by omega)
theorem JT.setn {w wr : World} {g b0 b g1 : Nat} {ps : List Int} {ns ns' : List Q} {A : Option Addr} {c d : Nat} (h : JT w wr g b0 b ps ns A (some ⟨g1, 0, none⟩) c d) {i : Nat} (hi : i < ns.length * 4) {u : Value} (hl : ns'.length = ns.length) (hn : (flat ns).set i u = flat ns') : JT w (wr.setCell ⟨g1, i, none⟩ u) g b0 b ps ns' A (some ⟨g1, 0, none⟩) c d := by
 have hh := h.hb
 have hg1 := zAu h.ob g1 rfl
 refine ⟨?_, zAo h.oa (fun k hk e => own_ap h.oa h.ob (by decide) k hk (by rw [e]; rfl)) _, ?_, bx_set h.res (fun e => zAk h.ob h.res (by decide) g1 rfl e.symm) _, h.cur.set (by show g < g1; omega) _, h.fr.setCell (Or.inr hg1) _, hh⟩
 ·rw [hl]; exact bx_set h.bx (fun e => zAk h.ob h.bx (by decide) g1 rfl e.symm) _
 ·rw [hl, ← hn]; exact own_put h.ob hi
theorem JT.put {w wr w1 : World} {g b0 b : Nat} {ps : List Int} {ns : List Q} {A B : Option Addr} {c d : Nat} (h : JT w wr g b0 b ps ns A B c d) {x : Int} {v : Value}
  (hv : w1.ownsRow w.heap.size 3 1 v (ps.length + 1) (ints ps ++ [.int .i64 x])) (hg : wr.grownBy w1 (Value.slice A ps.length c).ownBlock) :
  ∃ A' c', JT w (w1.setCell ⟨b, 0, none⟩ v) g b0 b (ps ++ [x]) ns A' B c' d := by
 obtain ⟨A', c', rfl, _⟩ := zAq hv
 have hh := h.hb
 have hl : (ps ++ [x]).length = ps.length + 1 := by simp
 have hrow : ∀ k, (Value.slice A ps.length c).ownBlock = some k → w.heap.size ≤ k := fun k hk => zAu h.oa k hk
 have e1 := zAp h.bx hg (fun k hk => zAk h.oa h.bx (by decide) k hk)
 have e3 : w1.ownsRow w.heap.size 199 4 (.slice B ns.length d) ns.length (flat ns) := zAx h.ob hg (fun k hk e => by
  have q1 := own_ap h.oa h.ob (by decide) k e
  exact q1 hk)
 refine ⟨A', c', ?_, ?_, zAo e3 (zAk e3 e1 (by decide)) _, bx_set (zAp h.res hg (fun k hk => zAk h.oa h.res (by decide) k hk)) (by show b0 ≠ b; omega) _, (h.cur.grown hg (fun k hk => by have := hrow k hk; omega)).set (by show g < b; omega) _, (h.fr.grown hg hrow).setCell (Or.inr (by show w.heap.size ≤ b; omega)) _, hh⟩
 ·rw [hl]; exact topo_set0 e1 _
 ·rw [hl, ints_snoc]; exact zAo hv (zAk hv e1 (by decide)) _
theorem JT.none0 {w wr : World} {g b0 b : Nat} {ps : List Int} {ns : List Q} {A B : Option Addr} {c d : Nat} (h : JT w wr g b0 b ps ns A B c d) : JT w (wr.setCell ⟨b, 0, none⟩ (.slice none 0 0)) g b0 b [] ns none B 0 d := by
 have hh := h.hb
 exact ⟨topo_set0 h.bx _, own_nil _ _ _ _, zAo h.ob (zAk h.ob h.bx (by decide)) _, bx_set h.res (by show b0 ≠ b; omega) _, h.cur.set (by show g < b; omega) _, h.fr.setCell (Or.inr (by show w.heap.size ≤ b; omega)) _, hh⟩
def rB1 (g : Nat) : Value → World → Prop := fun u w => ∃ (k : Nat) (y : Int), u = .slice (some ⟨k, 0, none⟩) 1 1 ∧ w.heap[k]? = some (.cells #[.int .i64 y] 3 (0, 0)) ∧ g < k
theorem rB1_fr {g : Nat} {u : Value} {w w' : World} (h : rB1 g u w) (hf : Fr (· = g) w w') : rB1 g u w' := by
 obtain ⟨k, y, h1, h2, h3⟩ := h
 exact ⟨k, y, h1, bx_fr h2 hf (by show ¬ _ = _; omega), h3⟩
def rX : Value → World → Prop := fun u _ => ∃ x : Int, u = .int .i64 x
set_option maxHeartbeats 8000000 in
set_option maxRecDepth 20000 in
theorem cur_topoAny (g : Nat) (w : World) (h : Cur w g) :
  Calls Tryz.prog 189 #[.pointer (some ⟨g, 0, none⟩)] w fun e w' => ∃ (A B : Option Addr) (c d : Nat) (ps : List Int) (ns : List Q), e = .returned (.agg #[.slice A ps.length c, .slice B ns.length d]) ∧ ps.length ≤ 19 ∧ ns.length ≤ 10 ∧ w'.ownsRow w.heap.size 3 1 (.slice A ps.length c) ps.length (ints ps) ∧ w'.ownsRow w.heap.size 199 4 (.slice B ns.length d) ns.length (flat ns) ∧ Cur w' g ∧ Fr (· = g) w w' := by
 have C := Lib.hid h
 have hgw := h.lt
 clear h
 go_enter Tryz.func189, Tryz.ntmps189
 go_wp2_with fail
 refine (cur_topo g _ (by repeat (first | exact C.out | refine Cur.alloc ?_ _ | refine Cur.drewN ?_ _ | refine Cur.drew ?_ | refine Cur.set ?_ (by simp <;> omega) _))).mono ?_
 rintro e w1 ⟨A, B, c, d, ps, ns, rfl, hp1, hp2, hn2, oa, ob, cu1, fr1⟩
 have hs1 := fr1.size
 (try simp at hs1)
 have hy10 : w.heap.size < w1.heap.size := by omega
 have hk10 := fun o => fr1.cell (b := w.heap.size) zOm (by omega) o
 have hg10 := fun o => fr1.frozen (b := w.heap.size) zOm (by omega) o
 have C1 := Lib.hid cu1
 have hgl1 := cu1.lt
 clear cu1
 have T0 : Hid (JT w (w1.alloc (.cells #[.slice A ps.length c, .slice B ns.length d] 26)) g w.heap.size w1.heap.size ps ns A B c d) := Lib.hid (by
  have hal := zAa w1 (.cells #[.slice A ps.length c, .slice B ns.length d] 26)
  refine ⟨zAj _ rfl, zAm (zAe oa hal) (by simp), zAm (zAe ob hal) (by simp), zAs (bx_fr (zAj (w := w) (.cells #[.slice none 0 0, .slice none 0 0] 26) rfl) fr1 (by show ¬ _ = _; omega)) _, C1.out.alloc _, ?_, by omega⟩
  exact (((Fr.refl _ w).alloc _).trans fr1).alloc _)
 clear hk10 hg10 fr1 oa ob
 go_upto_region 2 with fail
 obtain ⟨bb, hbb⟩ : ∃ k, k = w1.heap.size := ⟨_, rfl⟩
 rw [← hbb] at T0 ⊢
 generalize w1.alloc (.cells #[.slice A ps.length c, .slice B ns.length d] 26) = w2 at *
 clear hbb hs1 hy10 hgl1 C1
 go_wp2_with fail
 refine (zAt g 14 _ T0.out.cur (by omega) (by omega)).mono ?_
 rintro e w3 ⟨k, rfl, ka, kb, cu3, fr3⟩
 have T := Lib.hid (T0.out.cs fr3 cu3)
 clear fr3 cu3 T0
 have k0 := zAb T.out.bx 0 rfl
 have k1 := zAb T.out.bx 1 rfl
 have kf := zAh T.out.bx
 have r0 := zAb T.out.res 0 rfl
 have r1 := zAb T.out.res 1 rfl
 have rf := zAh T.out.res
 have hlb := zAg T.out.bx
 simp only [zgc, zga, zgb] at k0 k1 r0 r1
 by_cases e0 : k = 0
 ·subst e0
  go_upto_region 4 with fail
  refine wp_region_tail 9 (fun w9 => JT w w9 g w.heap.size bb ps ns A B c d) (Fr (· = g)) (by kernel_rfl) (by kernel_rfl) (T.out.bel (zAd _ 1)) ?_
  clear k0 k1 kf r0 r1 rf hlb
  show Det _ _ _ _ _ _ (_ :: _ :: _ :: _ :: _ :: _ :: _ :: _ :: _ :: []) _ _
  refine Det.val ?_ rfl ?_ (Fr.refl _) ?_
  rotate_left
  ·intro f w9 hJ
   have k0 := zAb hJ.bx 0 rfl; have k1 := zAb hJ.bx 1 rfl; have kf := zAh hJ.bx; simp only [zgc, zga, zgb] at k0 k1
   go_simp
   with_reducible rfl
  (try simp only [putA, zgd, zgf, zge, zgg])
  refine Det.val ?_ rfl ?_ (Fr.refl _) ?_
  rotate_left
  ·intro f w9 hJ
   have k0 := zAb hJ.bx 0 rfl; have k1 := zAb hJ.bx 1 rfl; have kf := zAh hJ.bx; simp only [zgc, zga, zgb] at k0 k1
   go_simp
   with_reducible rfl
  (try simp only [putA, zgd, zgf, zge, zgg])
  refine Det.val ?_ rfl ?_ (Fr.refl _) ?_
  rotate_left
  ·intro f w9 hJ
   have k0 := zAb hJ.bx 0 rfl; have k1 := zAb hJ.bx 1 rfl; have kf := zAh hJ.bx; simp only [zgc, zga, zgb] at k0 k1
   go_simp
   with_reducible rfl
  (try simp only [putA, zgd, zgf, zge, zgg])
  refine Det.val ?_ rfl ?_ (Fr.refl _) ?_
  rotate_left
  ·intro f w9 hJ
   have k0 := zAb hJ.bx 0 rfl; have k1 := zAb hJ.bx 1 rfl; have kf := zAh hJ.bx; simp only [zgc, zga, zgb] at k0 k1
   go_simp
   with_reducible rfl
  (try simp only [putA, zgd, zgf, zge, zgg])
  refine Det.val ?_ rfl ?_ (Fr.refl _) ?_
  rotate_left
  ·intro f w9 hJ
   have k0 := zAb hJ.bx 0 rfl; have k1 := zAb hJ.bx 1 rfl; have kf := zAh hJ.bx; simp only [zgc, zga, zgb] at k0 k1
   go_simp
   with_reducible rfl
  (try simp only [putA, zgd, zgf, zge, zgg])
  refine Det.val ?_ rfl ?_ (Fr.refl _) ?_
  rotate_left
  ·intro f w9 hJ
   have k0 := zAb hJ.bx 0 rfl; have k1 := zAb hJ.bx 1 rfl; have kf := zAh hJ.bx; simp only [zgc, zga, zgb] at k0 k1
   go_simp
   with_reducible rfl
  (try simp only [putA, zgd, zgf, zge, zgg])
  refine Det.flo (rI 0 (ps.length - 1)) rfl rfl (fun _ _ _ h _ => h) ?_ ?_
  ·intro f w9 K hJ hR hK
   have HK := Lib.hid hK
   clear hK hR
   go_simp
   go_at_call 132
   refine (zAt g (ps.length : Int) _ hJ.cur (by omega) (by omega)).mono ?_
   rintro e w10 ⟨x, rfl, h0, h1, cu, fr⟩
   exact HK.out _ _ (hJ.cs fr cu) fr ⟨x, rfl, by omega, by omega⟩
  (try simp only [putA, zgd, zgf, zge, zgg])
  refine Det.val ?_ rfl ?_ (Fr.refl _) ?_
  rotate_left
  ·intro f w9 hJ
   skip
   go_simp
   with_reducible rfl
  (try simp only [putA, zgd, zgf, zge, zgg])
  refine Det.flo (rX) rfl rfl (fun _ _ _ h _ => h) ?_ ?_
  ·intro f w9 K hJ hR hK
   have HK := Lib.hid hK
   clear hK hR
   go_simp
   go_at_call 134
   refine (cur_raw g _ hJ.cur).mono ?_
   rintro e w10 ⟨x, rfl, _, cu, fr⟩
   exact HK.out _ _ (hJ.cs fr cu) fr ⟨x, rfl⟩
  (try simp only [putA, zgd, zgf, zge, zgg])
  refine Det.nil ?_
  intro f w9 hJ hR
  obtain ⟨y, hy, y0, y1⟩ := hR (17, rI 0 (ps.length - 1)) (by simp [addF, dropF])
  obtain ⟨z, hz⟩ := hR (19, rX) (by simp [addF, dropF])
  clear hR
  simp only [hy, hz]
  clear hy hz
  obtain ⟨i, rfl⟩ : ∃ i : Nat, y = i := ⟨y.toNat, by omega⟩
  have hi : i < ps.length := by omega
  have hi' : (i : Int) < ps.length := by omega
  obtain ⟨g1, x, rfl, hx, cx⟩ := Rd.int (zAn hJ.oa) hi
  have of := own_frz hJ.oa
  have T4 := Lib.hid (hJ.seti hi z)
  clear hJ hx T
  show wpList _ _ _ (_ :: _ :: []) _ _
  go_upto_region 5 with fail
  clear cx of
  generalize w9.setCell _ _ = w4 at *
  have k0 := zAb T4.out.bx 0 rfl
  have k1 := zAb T4.out.bx 1 rfl
  have kf := zAh T4.out.bx
  have r0 := zAb T4.out.res 0 rfl
  have r1 := zAb T4.out.res 1 rfl
  have rf := zAh T4.out.res
  have hlb := zAg T4.out.bx
  simp only [zgc, zga, zgb] at k0 k1 r0 r1
  go_wp2
  (try go_light)
  refine bodyPost_ret (v := .agg #[.slice (some ⟨g1, 0, none⟩) (ps.set i z).length c, .slice B (ns).length d]) (by simp [results, Tryz.results189, go_sem, *]) rfl ?_
  refine ⟨(some ⟨g1, 0, none⟩), B, c, d, ps.set i z, ns, rfl, by (first | omega | (have h9 := hp2; simp at h9 ⊢; omega) | simp), by (first | omega | (have h9 := hn2; simp at h9 ⊢; omega) | simp), ?_, ?_, ?_, ?_⟩
  ·exact zAo (zAo T4.out.oa (zAk T4.out.oa T4.out.res (by decide)) _) (zAk T4.out.oa T4.out.res (by decide)) _
  ·exact zAo (zAo T4.out.ob (zAk T4.out.ob T4.out.res (by decide)) _) (zAk T4.out.ob T4.out.res (by decide)) _
  ·exact (T4.out.cur.set hgw _).set hgw _
  ·exact (T4.out.fr.setCell (Or.inr (Nat.le_refl _)) _).setCell (Or.inr (Nat.le_refl _)) _
 by_cases e1 : k = 1
 ·subst e1
  cases ns with
  | nil =>
   have hn' : ¬ (0 : Int) < ([] : List Q).length := by simp
   have k0 := zAb T.out.bx 0 rfl
   have k1 := zAb T.out.bx 1 rfl
   have kf := zAh T.out.bx
   have r0 := zAb T.out.res 0 rfl
   have r1 := zAb T.out.res 1 rfl
   have rf := zAh T.out.res
   have hlb := zAg T.out.bx
   simp only [zgc, zga, zgb] at k0 k1 r0 r1
   go_wp2
   (try go_light)
   refine bodyPost_ret (v := .agg #[.slice A (ps).length c, .slice B 0 d]) (by simp [results, Tryz.results189, go_sem, *]) rfl ?_
   refine ⟨A, B, c, d, ps, ([] : List Q), rfl, by (first | omega | (have h9 := hp2; simp at h9 ⊢; omega) | simp), by (first | omega | (have h9 := hn2; simp at h9 ⊢; omega) | simp), ?_, ?_, ?_, ?_⟩
   ·exact zAo (zAo T.out.oa (zAk T.out.oa T.out.res (by decide)) _) (zAk T.out.oa T.out.res (by decide)) _
   ·exact zAo (zAo T.out.ob (zAk T.out.ob T.out.res (by decide)) _) (zAk T.out.ob T.out.res (by decide)) _
   ·exact (T.out.cur.set hgw _).set hgw _
   ·exact (T.out.fr.setCell (Or.inr (Nat.le_refl _)) _).setCell (Or.inr (Nat.le_refl _)) _
  | cons q r =>
   have hn' : (0 : Int) < (q :: r).length := by first | (simp; done) | (simp; omega)
   go_upto_region 6 with fail
   refine wp_region_tail 4 (fun w9 => JT w w9 g w.heap.size bb ps (q :: r) A B c d) (Fr (· = g)) (by kernel_rfl) (by kernel_rfl) (T.out.bel (zAd _ 1)) ?_
   clear k0 k1 kf r0 r1 rf hlb
   show Det _ _ _ _ _ _ (_ :: _ :: _ :: _ :: []) _ _
   refine Det.val ?_ rfl ?_ (Fr.refl _) ?_
   rotate_left
   ·intro f w9 hJ
    have k0 := zAb hJ.bx 0 rfl; have k1 := zAb hJ.bx 1 rfl; have kf := zAh hJ.bx; simp only [zgc, zga, zgb] at k0 k1
    go_simp
    with_reducible rfl
   (try simp only [putA, zgd, zgf, zge, zgg])
   refine Det.val ?_ rfl ?_ (Fr.refl _) ?_
   rotate_left
   ·intro f w9 hJ
    have k0 := zAb hJ.bx 0 rfl; have k1 := zAb hJ.bx 1 rfl; have kf := zAh hJ.bx; simp only [zgc, zga, zgb] at k0 k1
    go_simp
    with_reducible rfl
   (try simp only [putA, zgd, zgf, zge, zgg])
   refine Det.val ?_ rfl ?_ (Fr.refl _) ?_
   rotate_left
   ·intro f w9 hJ
    skip
    go_simp
    with_reducible rfl
   (try simp only [putA, zgd, zgf, zge, zgg])
   refine Det.flo (rX) rfl rfl (fun _ _ _ h _ => h) ?_ ?_
   ·intro f w9 K hJ hR hK
    have HK := Lib.hid hK
    clear hK hR
    go_simp
    go_at_call 134
    refine (cur_raw g _ hJ.cur).mono ?_
    rintro e w10 ⟨x, rfl, _, cu, fr⟩
    exact HK.out _ _ (hJ.cs fr cu) fr ⟨x, rfl⟩
   (try simp only [putA, zgd, zgf, zge, zgg])
   refine Det.nil ?_
   intro f w9 hJ hR
   obtain ⟨z, hz⟩ := hR (32, rX) (by simp [addF, dropF])
   clear hR
   simp only [hz]
   clear hz
   obtain ⟨g1, q', rfl, hq, d0, d1, d2, d3⟩ := Rd.q (zAn hJ.ob) (k := 0) (by simp)
   have hqq : q' = q := by simpa using hq.symm
   subst hqq
   clear hq
   simp only [Nat.zero_mul, Nat.zero_add] at d0 d1 d2 d3
   have of := own_frz hJ.ob
   have hl0 : 0 < (q' :: r).length := by simp
   have T4 := Lib.hid (hJ.setn (i := 0) (ns' := ⟨z, q'.a, q'.b, q'.c⟩ :: r) (u := .int .i64 z) (by first | (simp; done) | (simp; omega)) rfl rfl)
   clear hJ T
   show wpList _ _ _ (_ :: _ :: _ :: []) _ _
   go_upto_region 7 with fail
   clear d0 d1 d2 d3 of
   generalize w9.setCell _ _ = w4 at *
   have k0 := zAb T4.out.bx 0 rfl
   have k1 := zAb T4.out.bx 1 rfl
   have kf := zAh T4.out.bx
   have r0 := zAb T4.out.res 0 rfl
   have r1 := zAb T4.out.res 1 rfl
   have rf := zAh T4.out.res
   have hlb := zAg T4.out.bx
   simp only [zgc, zga, zgb] at k0 k1 r0 r1
   go_wp2
   (try go_light)
   refine bodyPost_ret (v := .agg #[.slice A (ps).length c, .slice (some ⟨g1, 0, none⟩) (⟨z, q'.a, q'.b, q'.c⟩ :: r).length d]) (by simp [results, Tryz.results189, go_sem, *]) rfl ?_
   refine ⟨A, (some ⟨g1, 0, none⟩), c, d, ps, ⟨z, q'.a, q'.b, q'.c⟩ :: r, rfl, by (first | omega | (have h9 := hp2; simp at h9 ⊢; omega) | simp), by (first | omega | (have h9 := hn2; simp at h9 ⊢; omega) | simp), ?_, ?_, ?_, ?_⟩
   ·exact zAo (zAo T4.out.oa (zAk T4.out.oa T4.out.res (by decide)) _) (zAk T4.out.oa T4.out.res (by decide)) _
   ·exact zAo (zAo T4.out.ob (zAk T4.out.ob T4.out.res (by decide)) _) (zAk T4.out.ob T4.out.res (by decide)) _
   ·exact (T4.out.cur.set hgw _).set hgw _
   ·exact (T4.out.fr.setCell (Or.inr (Nat.le_refl _)) _).setCell (Or.inr (Nat.le_refl _)) _
 by_cases e2 : k = 2
 ·subst e2
  cases ns with
  | nil =>
   have hn' : ¬ (0 : Int) < ([] : List Q).length := by simp
   have k0 := zAb T.out.bx 0 rfl
   have k1 := zAb T.out.bx 1 rfl
   have kf := zAh T.out.bx
   have r0 := zAb T.out.res 0 rfl
   have r1 := zAb T.out.res 1 rfl
   have rf := zAh T.out.res
   have hlb := zAg T.out.bx
   simp only [zgc, zga, zgb] at k0 k1 r0 r1
   go_wp2
   (try go_light)
   refine bodyPost_ret (v := .agg #[.slice A (ps).length c, .slice B 0 d]) (by simp [results, Tryz.results189, go_sem, *]) rfl ?_
   refine ⟨A, B, c, d, ps, ([] : List Q), rfl, by (first | omega | (have h9 := hp2; simp at h9 ⊢; omega) | simp), by (first | omega | (have h9 := hn2; simp at h9 ⊢; omega) | simp), ?_, ?_, ?_, ?_⟩
   ·exact zAo (zAo T.out.oa (zAk T.out.oa T.out.res (by decide)) _) (zAk T.out.oa T.out.res (by decide)) _
   ·exact zAo (zAo T.out.ob (zAk T.out.ob T.out.res (by decide)) _) (zAk T.out.ob T.out.res (by decide)) _
   ·exact (T.out.cur.set hgw _).set hgw _
   ·exact (T.out.fr.setCell (Or.inr (Nat.le_refl _)) _).setCell (Or.inr (Nat.le_refl _)) _
  | cons q r =>
   have hn' : (0 : Int) < (q :: r).length := by first | (simp; done) | (simp; omega)
   go_upto_region 8 with fail
   refine wp_region_tail 4 (fun w9 => JT w w9 g w.heap.size bb ps (q :: r) A B c d) (Fr (· = g)) (by kernel_rfl) (by kernel_rfl) (T.out.bel (zAd _ 1)) ?_
   clear k0 k1 kf r0 r1 rf hlb
   show Det _ _ _ _ _ _ (_ :: _ :: _ :: _ :: []) _ _
   refine Det.val ?_ rfl ?_ (Fr.refl _) ?_
   rotate_left
   ·intro f w9 hJ
    have k0 := zAb hJ.bx 0 rfl; have k1 := zAb hJ.bx 1 rfl; have kf := zAh hJ.bx; simp only [zgc, zga, zgb] at k0 k1
    go_simp
    with_reducible rfl
   (try simp only [putA, zgd, zgf, zge, zgg])
   refine Det.val ?_ rfl ?_ (Fr.refl _) ?_
   rotate_left
   ·intro f w9 hJ
    have k0 := zAb hJ.bx 0 rfl; have k1 := zAb hJ.bx 1 rfl; have kf := zAh hJ.bx; simp only [zgc, zga, zgb] at k0 k1
    go_simp
    with_reducible rfl
   (try simp only [putA, zgd, zgf, zge, zgg])
   refine Det.val ?_ rfl ?_ (Fr.refl _) ?_
   rotate_left
   ·intro f w9 hJ
    skip
    go_simp
    with_reducible rfl
   (try simp only [putA, zgd, zgf, zge, zgg])
   refine Det.flo (rV) rfl rfl (fun _ _ _ h _ => h) ?_ ?_
   ·intro f w9 K hJ hR hK
    have HK := Lib.hid hK
    clear hK hR
    go_simp
    go_at_call 217
    refine (cur_any g _ hJ.cur).mono ?_
    rintro e w10 ⟨x, y, z, rfl, _, _, _, cu, fr⟩
    exact HK.out _ _ (hJ.cs fr cu) fr ⟨x, y, z, rfl⟩
   (try simp only [putA, zgd, zgf, zge, zgg])
   refine Det.nil ?_
   intro f w9 hJ hR
   obtain ⟨za, zb, zc, hz⟩ := hR (46, rV) (by simp [addF, dropF])
   clear hR
   simp only [hz]
   clear hz
   obtain ⟨g1, q', rfl, hq, d0, d1, d2, d3⟩ := Rd.q (zAn hJ.ob) (k := 0) (by simp)
   have hqq : q' = q := by simpa using hq.symm
   subst hqq
   clear hq
   simp only [Nat.zero_mul, Nat.zero_add] at d0 d1 d2 d3
   have of := own_frz hJ.ob
   have hl0 : 0 < (q' :: r).length := by simp
   have T4 := Lib.hid (((hJ.setn (i := 1) (ns' := ⟨q'.t, za, q'.b, q'.c⟩ :: r) (u := .int .i64 za) (by first | (simp; done) | (simp; omega)) rfl rfl).setn (i := 2) (ns' := ⟨q'.t, za, zb, q'.c⟩ :: r) (u := .int .i64 zb) (by first | (simp; done) | (simp; omega)) rfl rfl).setn (i := 3) (ns' := ⟨q'.t, za, zb, zc⟩ :: r) (u := .int .i64 zc) (by first | (simp; done) | (simp; omega)) rfl rfl)
   clear hJ T
   show wpList _ _ _ (_ :: _ :: _ :: []) _ _
   go_upto_region 9 with fail
   clear d0 d1 d2 d3 of
   generalize ((w9.setCell _ _).setCell _ _).setCell _ _ = w4 at *
   have k0 := zAb T4.out.bx 0 rfl
   have k1 := zAb T4.out.bx 1 rfl
   have kf := zAh T4.out.bx
   have r0 := zAb T4.out.res 0 rfl
   have r1 := zAb T4.out.res 1 rfl
   have rf := zAh T4.out.res
   have hlb := zAg T4.out.bx
   simp only [zgc, zga, zgb] at k0 k1 r0 r1
   go_wp2
   (try go_light)
   refine bodyPost_ret (v := .agg #[.slice A (ps).length c, .slice (some ⟨g1, 0, none⟩) (⟨q'.t, za, zb, zc⟩ :: r).length d]) (by simp [results, Tryz.results189, go_sem, *]) rfl ?_
   refine ⟨A, (some ⟨g1, 0, none⟩), c, d, ps, ⟨q'.t, za, zb, zc⟩ :: r, rfl, by (first | omega | (have h9 := hp2; simp at h9 ⊢; omega) | simp), by (first | omega | (have h9 := hn2; simp at h9 ⊢; omega) | simp), ?_, ?_, ?_, ?_⟩
   ·exact zAo (zAo T4.out.oa (zAk T4.out.oa T4.out.res (by decide)) _) (zAk T4.out.oa T4.out.res (by decide)) _
   ·exact zAo (zAo T4.out.ob (zAk T4.out.ob T4.out.res (by decide)) _) (zAk T4.out.ob T4.out.res (by decide)) _
   ·exact (T4.out.cur.set hgw _).set hgw _
   ·exact (T4.out.fr.setCell (Or.inr (Nat.le_refl _)) _).setCell (Or.inr (Nat.le_refl _)) _
 by_cases e3 : k = 3
 ·subst e3
  go_upto_region 10 with fail
  refine wp_region_tail 8 (fun w9 => JT w w9 g w.heap.size bb ps ns A B c d) (Fr (· = g)) (by kernel_rfl) (by kernel_rfl) (T.out.bel (zAd _ 1)) ?_
  clear k0 k1 kf r0 r1 rf hlb
  show Det _ _ _ _ _ _ (_ :: _ :: _ :: _ :: _ :: _ :: _ :: _ :: []) _ _
  refine Det.val ?_ rfl ?_ (Fr.refl _) ?_
  rotate_left
  ·intro f w9 hJ
   have k0 := zAb hJ.bx 0 rfl; have k1 := zAb hJ.bx 1 rfl; have kf := zAh hJ.bx; simp only [zgc, zga, zgb] at k0 k1
   go_simp
   with_reducible rfl
  (try simp only [putA, zgd, zgf, zge, zgg])
  refine Det.val ?_ rfl ?_ (Fr.refl _) ?_
  rotate_left
  ·intro f w9 hJ
   have k0 := zAb hJ.bx 0 rfl; have k1 := zAb hJ.bx 1 rfl; have kf := zAh hJ.bx; simp only [zgc, zga, zgb] at k0 k1
   go_simp
   with_reducible rfl
  (try simp only [putA, zgd, zgf, zge, zgg])
  refine Det.val ?_ rfl ?_ (Fr.refl _) ?_
  rotate_left
  ·intro f w9 hJ
   have k0 := zAb hJ.bx 0 rfl; have k1 := zAb hJ.bx 1 rfl; have kf := zAh hJ.bx; simp only [zgc, zga, zgb] at k0 k1
   go_simp
   with_reducible rfl
  (try simp only [putA, zgd, zgf, zge, zgg])
  refine Det.val ?_ rfl ?_ (Fr.refl _) ?_
  rotate_left
  ·intro f w9 hJ
   have k0 := zAb hJ.bx 0 rfl; have k1 := zAb hJ.bx 1 rfl; have kf := zAh hJ.bx; simp only [zgc, zga, zgb] at k0 k1
   go_simp
   with_reducible rfl
  (try simp only [putA, zgd, zgf, zge, zgg])
  refine Det.val ?_ rfl ?_ (Fr.refl _) ?_
  rotate_left
  ·intro f w9 hJ
   have k0 := zAb hJ.bx 0 rfl; have k1 := zAb hJ.bx 1 rfl; have kf := zAh hJ.bx; simp only [zgc, zga, zgb] at k0 k1
   go_simp
   with_reducible rfl
  (try simp only [putA, zgd, zgf, zge, zgg])
  refine Det.val ?_ rfl ?_ (Fr.refl _) ?_
  rotate_left
  ·intro f w9 hJ
   have k0 := zAb hJ.bx 0 rfl; have k1 := zAb hJ.bx 1 rfl; have kf := zAh hJ.bx; simp only [zgc, zga, zgb] at k0 k1
   go_simp
   with_reducible rfl
  (try simp only [putA, zgd, zgf, zge, zgg])
  refine Det.flo (rI 0 (ps.length - 1)) rfl rfl (fun _ _ _ h _ => h) ?_ ?_
  ·intro f w9 K hJ hR hK
   have HK := Lib.hid hK
   clear hK hR
   go_simp
   go_at_call 132
   refine (zAt g (ps.length : Int) _ hJ.cur (by omega) (by omega)).mono ?_
   rintro e w10 ⟨x, rfl, h0, h1, cu, fr⟩
   exact HK.out _ _ (hJ.cs fr cu) fr ⟨x, rfl, by omega, by omega⟩
  (try simp only [putA, zgd, zgf, zge, zgg])
  refine Det.flo (rB1 g) rfl rfl (fun _ _ _ h hf => rB1_fr h hf) ?_ ?_
  ·intro f w9 K hJ hR hK
   obtain ⟨y, hy, -, -⟩ := hR (57, rI 0 (ps.length - 1)) (by simp [addF, dropF]) (by show (57 : Nat) ∈ _; decide)
   simp only [hy] at hK
   have HK := Lib.hid hK
   clear hK
   clear hR
   have hgl9 := hJ.cur.lt
   go_simp
   exact HK.out _ _ (hJ.bel (zAa _ _)) ((Fr.refl _ _).alloc _) ⟨_, _, rfl, zAj _ rfl, hgl9⟩
  (try simp only [putA, zgd, zgf, zge, zgg])
  refine Det.nil ?_
  intro f w9 hJ hR
  obtain ⟨kk, y, h58, hb58, hgk⟩ := hR (58, rB1 g) (by simp [addF, dropF])
  clear hR
  simp only [h58]
  clear h58
  have hnl := zAg hb58
  have n0 := zAb hb58 0 rfl
  have k0 := zAb hJ.bx 0 rfl; have k1 := zAb hJ.bx 1 rfl; have kf := zAh hJ.bx; simp only [zgc, zga, zgb] at k0 k1
  simp only [zgc, zga, zgb] at n0
  have TH := Lib.hid hJ
  clear hJ hb58 T
  obtain ⟨i0, hi, hz0, hz1, hz2⟩ := info_parts infoI
  show wpList _ _ _ (_ :: _ :: _ :: []) _ _
  have hlo9 : w.heap.size ≤ w9.heap.size := TH.out.fr.size
  go_wp2_with (at_builtin; refine wpList_append_own _ rfl _ _ 23 rfl (w.heap.size) 3 i0 (.int .i64 0) 1 8 Tryz.underlying23 hi hz0 hz1 hz2 rfl (by decide) _ _ _ rfl (TH.out.oa) ⟨kk, 0, none⟩ 1 1 [.int .i64 y] rfl rfl ?cn1 ?cn2 ?cn3 ?cn4 ?cn5 ?_)
  try case cn1 =>
   intro j y hy
   match j, hy with
   | 0, hy => (simp at hy; subst hy; simp [Addr.add, n0])
  try case cn2 => simp [Value.oneCell']
  case cn3 => unfold maxLen; skip; omega
  case cn4 => skip; omega
  try case cn5 => first | omega | (simp <;> omega)
  intro v6 w6 own6 hg6 _
  obtain ⟨A6, c6, rfl, rd6⟩ := zAq own6
  clear rd6
  obtain ⟨A', c', T4'⟩ := TH.out.put own6 hg6
  have e6 := zAp TH.out.bx hg6 (zAk TH.out.oa TH.out.bx (by decide))
  have g0 := zAb e6 0 rfl
  have gf := zAh e6
  simp only [zgc, zga, zgb] at g0
  have T4h := Lib.hid T4'
  clear T4' own6 hi hz0 hz1 hz2 k0 k1 kf n0 hg6 e6 TH
  go_upto_region 11 with fail
  obtain ⟨ps', hps'⟩ : ∃ p, p = ps ++ [y] := ⟨_, rfl⟩
  have hp9 : ps'.length ≤ 19 := by rw [hps']; simp; omega
  rw [← hps'] at T4h
  have T4 := T4h
  clear T4h hps' g0 gf
  generalize w6.setCell _ _ = w4 at *
  have k0 := zAb T4.out.bx 0 rfl
  have k1 := zAb T4.out.bx 1 rfl
  have kf := zAh T4.out.bx
  have r0 := zAb T4.out.res 0 rfl
  have r1 := zAb T4.out.res 1 rfl
  have rf := zAh T4.out.res
  have hlb := zAg T4.out.bx
  simp only [zgc, zga, zgb] at k0 k1 r0 r1
  go_wp2
  (try go_light)
  refine bodyPost_ret (v := .agg #[.slice A' (ps').length c', .slice B (ns).length d]) (by simp [results, Tryz.results189, go_sem, *]) rfl ?_
  refine ⟨A', B, c', d, ps', ns, rfl, by (first | omega | (have h9 := hp2; simp at h9 ⊢; omega) | simp), by (first | omega | (have h9 := hn2; simp at h9 ⊢; omega) | simp), ?_, ?_, ?_, ?_⟩
  ·exact zAo (zAo T4.out.oa (zAk T4.out.oa T4.out.res (by decide)) _) (zAk T4.out.oa T4.out.res (by decide)) _
  ·exact zAo (zAo T4.out.ob (zAk T4.out.ob T4.out.res (by decide)) _) (zAk T4.out.ob T4.out.res (by decide)) _
  ·exact (T4.out.cur.set hgw _).set hgw _
  ·exact (T4.out.fr.setCell (Or.inr (Nat.le_refl _)) _).setCell (Or.inr (Nat.le_refl _)) _
 by_cases e4 : k = 4
 ·subst e4
  go_upto_region 13 with fail
  have T4 := Lib.hid T.out.none0
  clear k0 k1 kf r0 r1 rf hlb T
  generalize w3.setCell _ _ = w4 at *
  have k0 := zAb T4.out.bx 0 rfl
  have k1 := zAb T4.out.bx 1 rfl
  have kf := zAh T4.out.bx
  have r0 := zAb T4.out.res 0 rfl
  have r1 := zAb T4.out.res 1 rfl
  have rf := zAh T4.out.res
  have hlb := zAg T4.out.bx
  simp only [zgc, zga, zgb] at k0 k1 r0 r1
  go_wp2
  (try go_light)
  refine bodyPost_ret (v := .agg #[.slice none 0 0, .slice B (ns).length d]) (by simp [results, Tryz.results189, go_sem, *]) rfl ?_
  refine ⟨none, B, 0, d, ([] : List Int), ns, rfl, by (first | omega | (have h9 := hp2; simp at h9 ⊢; omega) | simp), by (first | omega | (have h9 := hn2; simp at h9 ⊢; omega) | simp), ?_, ?_, ?_, ?_⟩
  ·exact zAo (zAo T4.out.oa (zAk T4.out.oa T4.out.res (by decide)) _) (zAk T4.out.oa T4.out.res (by decide)) _
  ·exact zAo (zAo T4.out.ob (zAk T4.out.ob T4.out.res (by decide)) _) (zAk T4.out.ob T4.out.res (by decide)) _
  ·exact (T4.out.cur.set hgw _).set hgw _
  ·exact (T4.out.fr.setCell (Or.inr (Nat.le_refl _)) _).setCell (Or.inr (Nat.le_refl _)) _
 have k0 := zAb T.out.bx 0 rfl
 have k1 := zAb T.out.bx 1 rfl
 have kf := zAh T.out.bx
 have r0 := zAb T.out.res 0 rfl
 have r1 := zAb T.out.res 1 rfl
 have rf := zAh T.out.res
 have hlb := zAg T.out.bx
 simp only [zgc, zga, zgb] at k0 k1 r0 r1
 go_wp2
 (try go_light)
 refine bodyPost_ret (v := .agg #[.slice A (ps).length c, .slice B (ns).length d]) (by simp [results, Tryz.results189, go_sem, *]) rfl ?_
 refine ⟨A, B, c, d, ps, ns, rfl, by (first | omega | (have h9 := hp2; simp at h9 ⊢; omega) | simp), by (first | omega | (have h9 := hn2; simp at h9 ⊢; omega) | simp), ?_, ?_, ?_, ?_⟩
 ·exact zAo (zAo T.out.oa (zAk T.out.oa T.out.res (by decide)) _) (zAk T.out.oa T.out.res (by decide)) _
 ·exact zAo (zAo T.out.ob (zAk T.out.ob T.out.res (by decide)) _) (zAk T.out.ob T.out.res (by decide)) _
 ·exact (T.out.cur.set hgw _).set hgw _
 ·exact (T.out.fr.setCell (Or.inr (Nat.le_refl _)) _).setCell (Or.inr (Nat.le_refl _)) _
end Go.Proofs.YtnphjhbfpoekpaaGreat
