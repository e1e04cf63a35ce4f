import Derived.Test.YtnphjhbfpoekpaaGreatA3Pl
import Derived.StillTail
import Derived.Test.YtnphjhbfpoekpaaGreatA8Pl
import Derived.Test.YtnphjhbfpoekpaaGreatA14Pl
import Derived.Test.YtnphjhbfpoekpaaGreatA5Pl
import Derived.Maps.AppendAt
import Derived.Deep.RegionHeld3
import Derived.Test.YtnphjhbfpoekpaaGreatA22Pl
namespace Go.Proofs.YtnphjhbfpoekpaaGreat
set_option linter.unusedSimpArgs false
set_option linter.unusedVariables false
set_option linter.unnecessarySimpa false
open Go Go.RowKit
theorem dstAt_take {l : List Oper} {N i : Nat} (h : i < N) : dstAt (l.take N) i = dstAt l i := by
 unfold dstAt; rw [List.getElem?_take, if_pos h]
theorem RN_take {l : List Oper} {N : Nat} {c : Nat → Cl} {R : Flo} : ∀ i, i ≤ N → RN (l.take N) c R i = RN l c R i
 | 0, _ => rfl
 | i + 1, h => by rw [RN, RN, dstAt_take (by omega), RN_take i (by omega)]
theorem frN_take {l : List Oper} {N : Nat} {c : Nat → Cl} {s : (Tmp → Value) → Array Value} : ∀ i, i ≤ N → frN (l.take N) c s i = frN l c s i
 | 0, _ => rfl
 | i + 1, h => by funext f; rw [frN, frN, dstAt_take (by omega), frN_take i (by omega)]
def headL (n N : Nat) : Array Bool := ((List.range n).map fun j => decide (j < N)).toArray
theorem headL_eq {listed : Array Bool} {n N : Nat} (hs : listed.size = n) (h1 : ∀ i, i < N → i < n → listed.getD i false = true) (h2 : ∀ i, N ≤ i → listed.getD i false = false) : listed = headL n N := by
 apply Array.ext_getElem?
 intro i
 unfold headL
 by_cases hi : i < n
 ·have e1 : listed[i]? = some (listed.getD i false) := by
   have : i < listed.size := by omega
   simp [this]
  rw [e1]
  simp only [List.getElem?_toArray, List.getElem?_map, List.getElem?_range hi, Option.map_some]
  by_cases hN : i < N
  ·rw [h1 i hN hi]; simp [hN]
  ·rw [h2 i (by omega)]; simp [hN]
 ·rw [Array.getElem?_eq_none (by omega), Array.getElem?_eq_none (by simp; omega)]
def unlN (N : Nat) (listed : Array Bool) : Nat := unlisted N listed
theorem unlN_step {N : Nat} {listed : Array Bool} {i : Nat} (hi : i < N) (hs : i < listed.size) (hun : listed.getD i false = false) : unlN N (listed.setIfInBounds i true) + 1 = unlN N listed := by
 unfold unlN unlisted
 rw [← List.countP_eq_length_filter, ← List.countP_eq_length_filter]
 have hsplit : ∀ n, i < n → List.countP (fun j => !(listed.setIfInBounds i true).getD j false) (List.range n) + 1 = List.countP (fun j => !listed.getD j false) (List.range n) := by
  intro n
  induction n with
  | zero => intro h; omega
  | succ n ih =>
   intro h
   rw [List.range_succ, List.countP_append, List.countP_append]
   by_cases hin : i = n
   ·subst hin
    have same : List.countP (fun j => !(listed.setIfInBounds i true).getD j false) (List.range i) = List.countP (fun j => !listed.getD j false) (List.range i) := by
     apply List.countP_congr
     intro j hj
     have : i ≠ j := by have := List.mem_range.1 hj; omega
     rw [getD_set_ne false this]
    rw [same]
    have h1 : (listed.setIfInBounds i true).getD i false = true := by simp [hs]
    simp only [List.countP_singleton, h1, hun]
    simp
   ·have := ih (by omega)
    simp only [List.countP_singleton]
    rw [getD_set_ne false hin]
    omega
 exact hsplit N hi
section
variable {P : Program} {ops : Array Oper} {ds : List Deferred} {J : World → Prop} {St : World → World → Prop} {Q : Exit → Act → World → Prop} {s0 : Array Value} {b : Array Nat} {c : Nat → Cl} {N : Nat}
theorem dstepT (hok : detOk ops b s0.size = true)
  (hob : ∀ i o, i < N → ops[i]? = some o → (∀ r, c i = .flo r → (o.dst.isSome = true ∧ ∀ u w w', r u w → St w w' → r u w')) ∧ ObOp P ops ds J St o (c i) (RN ops.toList c [] i) (frN ops.toList c (fun _ => s0) i))
  {listed : Array Bool} {a : Act} {w : World} (hI : DInv ops ds J s0 c listed a w) (htl : ∀ i, N ≤ i → listed.getD i false = false) {i : Nat} (hiN : i < N) (hr : i ∈ Region.ready .any ops listed) {K : Act → World → Prop}
  (hK : ∀ a' w', DInv ops ds J s0 c (listed.setIfInBounds i true) a' w' → K a' w') : wpOp P ops Q i K a w := by
 obtain ⟨hun, o, hi, hrd⟩ := mem_ready.1 hr
 have hlti : i < ops.size := (Array.getElem?_eq_some_iff.1 hi).1
 obtain ⟨hk1, hk2, hk3⟩ := detOk_spec hok
 have hag : ∀ t ∈ o.looksAt ops, a.tmps[t]? = (frN ops.toList c (fun _ => s0) i (fun t => a.tmps.getD t undef))[t]? := fun t ht => frame_agree hok hI hi hun hrd ht
 obtain ⟨hst, ho⟩ := hob i o hiN hi
 have h0 := ho (fun t => a.tmps.getD t undef) w (fun a' w' => J w' ∧ St w w' ∧ a'.defers = ds ∧ ∀ d, o.dst = some d → (c i).ok (a'.tmps.getD d undef) w') hI.j ?_ ?_
 ·have fin : ∀ u w', J w' → St w w' → (∀ d, o.dst = some d → (c i).ok ((Act.put ⟨frN ops.toList c (fun _ => s0) i (fun t => a.tmps.getD t undef), ds⟩ o.dst u).tmps.getD d undef) w') → K (a.put o.dst u) w' := by
   intro u w' hJ hS hok'
   refine hK _ _ ⟨by rw [Array.size_setIfInBounds]; exact hI.size, ?_, ?_, hJ, ?_, ?_⟩
   ·cases hd : o.dst <;> simp [Act.put, hI.defers]
   ·cases hd : o.dst <;> simp [Act.put, hI.tmps]
   ·intro j x hx hl e he hb
    by_cases hij : i = j
    ·subst hij
     have : x = o := by rw [hi] at hx; exact (Option.some.inj hx).symm
     subst this
     exact getD_set_true (hrd e he hb)
    ·rw [getD_set_ne false hij] at hl
     exact getD_set_true (hI.closed j x hx hl e he hb)
   ·intro t ht
    have hold := hI.reads t ht
    by_cases hd : o.dst = some t
    ·have e1 : lastW ops.toList (fun j => (listed.setIfInBounds i true).getD j false) ops.size t = some i := by
      have := lastW_eq (l := ops.toList) (p := fun j => (listed.setIfInBounds i true).getD j false) (t := t) (i := i + 1) ops.size (by omega) (by
       intro j hj hdj
       have hh := listed_iff hok hI hi hun hrd (Or.inr hd) j hj hdj
       by_cases hij : i = j
       ·subst hij
        have : i < listed.size := by rw [hI.size]; exact hlti
        simp [this]
       ·show (listed.setIfInBounds i true).getD j false = true ↔ _
        rw [getD_set_ne false hij, hh]
        omega)
      rw [this, lastW, if_pos ⟨rfl, by rw [dstAt_of hi]; exact hd⟩]
     rw [e1]
     have h3 := hok' t hd
     have e2 : (a.put o.dst u).tmps.getD t undef = u := by
      have : t < a.tmps.size := by rw [hI.tmps]; exact ht
      simp [Act.put, hd, this]
     have e3 : (Act.put ⟨frN ops.toList c (fun _ => s0) i (fun t => a.tmps.getD t undef), ds⟩ o.dst u).tmps.getD t undef = u := by
      rw [hd]; exact put_getD _ (by rw [frN_size]; exact ht)
     rw [e3] at h3
     show (c i).ok ((a.put o.dst u).tmps.getD t undef) w'
     rw [e2]; exact h3
    ·have e1 : lastW ops.toList (fun j => (listed.setIfInBounds i true).getD j false) ops.size t = lastW ops.toList (fun j => listed.getD j false) ops.size t := by
      refine lastW_congr _ fun j hj hdj => ?_
      have hij : i ≠ j := by
       intro e; subst e; rw [dstAt_of hi] at hdj; exact hd hdj
      exact getD_set_ne false hij
     have e2 : (a.put o.dst u).tmps[t]? = a.tmps[t]? := by
      cases hdd : o.dst with
      | none => rfl
      | some d =>
       have hne : d ≠ t := fun e => hd (by rw [hdd, e])
       simp [Act.put, Array.getElem?_setIfInBounds_ne hne]
     have e3 : (a.put o.dst u).tmps.getD t undef = a.tmps.getD t undef := by
      have h4 := congrArg (·.getD undef) e2
      simpa using h4
     rw [e1]
     cases hl : lastW ops.toList (fun j => listed.getD j false) ops.size t with
     | none => rw [hl] at hold; show (a.put o.dst u).tmps[t]? = _; rw [e2]; exact hold
     | some j =>
      rw [hl] at hold
      show (c j).ok ((a.put o.dst u).tmps.getD t undef) w'
      rw [e3]
      replace hold : (c j).ok (a.tmps.getD t undef) w := hold
      cases hc : c j with
      | det v => rw [hc] at hold; exact hold
      | flo r =>
       rw [hc] at hold
       obtain ⟨hj1, _, hj2⟩ := lastW_spec _ hl
       obtain ⟨x, hx, _⟩ := of_dstAt hj2
       have hjN : j < N := by
        false_or_by_contra
        have h9 := htl j (by omega)
        rw [(lastW_spec _ hl).2.1] at h9
        cases h9
       exact ((hob j x hjN hx).1 r hc).2 _ _ _ hold hS
  refine cond_move (K := fun a' w' => J w' ∧ St w w' ∧ a'.defers = ds ∧ ∀ d, o.dst = some d → (c i).ok (a'.tmps.getD d undef) w') (a' := ⟨frN ops.toList c (fun _ => s0) i (fun t => a.tmps.getD t undef), ds⟩) i hi (wanted_agree hag) (fun h => oper_move (K := fun a' w' => J w' ∧ St w w' ∧ a'.defers = ds ∧ ∀ d, o.dst = some d → (c i).ok (a'.tmps.getD d undef) w') (hk1 i o hi).1 hag ?_ ?_ h) ?_ h0
  ·intro u w' hh
   exact fin u w' hh.1 hh.2.1 hh.2.2.2
  ·intro d u w' hh
   have := hh.2.2.1
   have h5 := congrArg List.length this
   cases hdd : o.dst <;> simp [Act.put, hdd] at h5
  ·intro hh
   exact fin undef w hh.1 hh.2.1 hh.2.2.2
 ·intro p hp hlk
  obtain ⟨j, hj, hcj⟩ := RN_mem i p hp
  have hlt : p.1 < s0.size := by
   obtain ⟨_, _, hj2⟩ := lastW_spec _ hj
   obtain ⟨x, hx, hxd⟩ := of_dstAt hj2
   exact (hk1 j x hx).2.1 _ hxd
  have hr := hI.reads p.1 hlt
  rw [lastW_eq ops.size (Nat.le_of_lt hlti) (listed_iff hok hI hi hun hrd (Or.inl hlk)), hj] at hr
  replace hr : (c j).ok (a.tmps.getD p.1 undef) w := hr
  rw [hcj] at hr
  exact hr
 ·intro u w' hJ hS hok'
  refine ⟨hJ, hS, by cases o.dst <;> rfl, ?_⟩
  intro d hd
  have hlt := (hk1 i o hi).2.1 d hd
  rw [hd, put_getD _ (by rw [frN_size]; exact hlt)]
  exact hok'
theorem wpAny_detT (hok : detOk ops b s0.size = true) (hs : Region.sinkB .any ops N = true) (hc : Region.chainB .any ops N = true) (hn : N < ops.size) (hseq : Region.seqB .any ops (ops.size - N) N (headL ops.size N) = true)
  (hob : ∀ i o, i < N → ops[i]? = some o → (∀ r, c i = .flo r → (o.dst.isSome = true ∧ ∀ u w w', r u w → St w w' → r u w')) ∧ ObOp P ops ds J St o (c i) (RN ops.toList c [] i) (frN ops.toList c (fun _ => s0) i))
  (hfin : ∀ (f : Tmp → Value) (w : World), J w → (∀ p ∈ RN ops.toList c [] N, p.2 (f p.1) w) → wpList P ops Q (ops.toList.drop N) ⟨frN ops.toList c (fun _ => s0) N f, ds⟩ w) :
  ∀ (fuel : Nat) (listed : Array Bool) (a : Act) (w : World), DInv ops ds J s0 c listed a w → (∀ i, N ≤ i → listed.getD i false = false) → unlN N listed = fuel → wpAny P .any ops Q (fuel + (ops.size - N)) listed a w := by
 intro fuel
 induction fuel with
 | zero =>
  intro listed a w hI htl hf
  have hall : ∀ i, i < N → listed.getD i false = true := by
   intro i hi
   cases hl : listed.getD i false with
   | true => rfl
   | false =>
    have := unlN_step (N := N) hi (by rw [hI.size]; omega) hl
    omega
  have he : listed = headL ops.size N := headL_eq hI.size (fun i hi _ => hall i hi) htl
  have hdl : (ops.toList.drop N).length = ops.size - N := by simp
  have hq : wpList P ops Q (ops.toList.drop N) a w := by
   have e0 : ∀ t, lastW ops.toList (fun j => listed.getD j false) ops.size t = lastW ops.toList (fun _ => true) N t := fun t => lastW_eq ops.size (by omega) fun j hj _ => by
    by_cases hjN : j < N
    ·simp [hall j hjN, hjN]
    ·rw [htl j (by omega)]; simp; omega
   have ea : a = ⟨frN ops.toList c (fun _ => s0) N (fun t => a.tmps.getD t undef), ds⟩ := by
    have e1 : a.tmps = frN ops.toList c (fun _ => s0) N (fun t => a.tmps.getD t undef) := by
     apply Array.ext_getElem?
     intro t
     by_cases hlt : t < s0.size
     ·rw [frN_read _ _ hlt]
      have hr := hI.reads t hlt
      rw [e0] at hr
      cases hl : lastW ops.toList (fun _ => true) N t with
      | none => rw [hl] at hr; exact hr
      | some j =>
       rw [hl] at hr
       replace hr : (c j).ok (a.tmps.getD t undef) w := hr
       have hs : a.tmps[t]? = some (a.tmps.getD t undef) := by
        have : t < a.tmps.size := by rw [hI.tmps]; exact hlt
        simp [this]
       rw [hs]
       show some _ = some _
       congr 1
       cases hc : c j with
       | det v => rw [hc] at hr; exact hr
       | flo r => rfl
     ·have h1 : a.tmps.size ≤ t := by rw [hI.tmps]; exact Nat.not_lt.1 hlt
      have h2 : (frN ops.toList c (fun _ => s0) N (fun t => a.tmps.getD t undef)).size ≤ t := by rw [frN_size]; exact Nat.not_lt.1 hlt
      rw [Array.getElem?_eq_none h1, Array.getElem?_eq_none h2]
    have e2 := hI.defers
    obtain ⟨at', ad⟩ := a
    simp only at e1 e2
    subst e2
    exact congrArg (fun x => (⟨x, ad⟩ : Act)) e1
   rw [ea]
   refine hfin _ w hI.j ?_
   intro p hp
   obtain ⟨j, hj, hcj⟩ := RN_mem N p hp
   have hlt : p.1 < s0.size := by
    obtain ⟨_, _, hj2⟩ := lastW_spec _ hj
    obtain ⟨x, hx, hxd⟩ := of_dstAt hj2
    exact ((detOk_spec hok).1 j x hx).2.1 _ hxd
   have hr := hI.reads p.1 hlt
   rw [e0, hj] at hr
   replace hr : (c j).ok (a.tmps.getD p.1 undef) w := hr
   rw [hcj] at hr
   exact hr
  have := wpAny_of_seq (md := .any) (Q' := Q) (ops.toList.drop N) N listed a w (fun j => by simp [List.getElem?_drop]) (by rw [hdl, he]; exact hseq) hq
  rw [hdl] at this
  simpa using this
 | succ fuel ih =>
  intro listed a w hI htl hf
  have hex : ∃ i, i < N ∧ listed.getD i true = false := by
   false_or_by_contra
   rename_i hno
   have hz : unlN N listed = 0 := by
    unfold unlN unlisted
    rw [List.length_eq_zero_iff, List.filter_eq_nil_iff]
    intro j hj
    have hjN := List.mem_range.1 hj
    have hjs : j < listed.size := by rw [hI.size]; omega
    cases hl : listed.getD j false with
    | true => simp
    | false => exact absurd ⟨j, hjN, by rw [getD_tf hjs]; exact hl⟩ hno
   omega
  obtain ⟨i0, hi0, hu0⟩ := hex
  have inv : HeadInv .any ops N listed := ⟨hI.size, fun j oj hj hl => hI.closed j oj hj hl, fun t ht ht' => getD_in (by rw [hI.size]; exact ht') (htl t ht)⟩
  have hlt : ∀ i ∈ Region.ready .any ops listed, i < N := fun i hi => by
   false_or_by_contra
   exact tail_waits hs hc hn inv _ i0 rfl hi0 hu0 i (by omega) hi
  rw [show fuel + 1 + (ops.size - N) = (fuel + (ops.size - N)) + 1 by omega]
  refine ⟨fun hr => ?_, fun i hi => ?_⟩
  ·exfalso
   have hall := all_listed hok hI.size hr i0 (by omega)
   have hs0 : i0 < listed.size := by rw [hI.size]; omega
   rw [getD_tf hs0, hall] at hu0
   cases hu0
  ·have hiN := hlt i hi
   obtain ⟨hun, o, ho, _⟩ := mem_ready.1 hi
   have hsz : i < listed.size := by rw [hI.size]; omega
   refine dstepT hok hob hI htl hiN hi fun a' w' hI' => ih _ a' w' hI' (fun j hj => ?_) ?_
   ·rw [getD_set_ne false (by omega)]; exact htl j hj
   ·have := unlN_step (N := N) hiN hsz (by rw [← getD_tf hsz]; exact hun)
    omega
def tailOk (ops : Array Oper) (N : Nat) (n : Nat) : Bool :=
 detOk ops (Region.before ops) n && Region.sinkB .any ops N && Region.chainB .any ops N && decide (N < ops.size) && Region.seqB .any ops (ops.size - N) N (headL ops.size N)
theorem wp_region_tail {id : Nat} {w : World} (N : Nat) (J : World → Prop) (St : World → World → Prop) (hm : P.follows .mixedOrders = true) (hok : tailOk ops N s0.size = true) (hJ : J w.drew)
  (h : Det P ops ds J St (fun _ a w => wpList P ops Q (ops.toList.drop N) a w) (ops.toList.take N) [] (fun _ => s0)) : (Code.region id ops true).wp P Q ⟨s0, ds⟩ w := by
 unfold tailOk at hok
 simp only [Bool.and_eq_true, decide_eq_true_eq] at hok
 obtain ⟨⟨⟨⟨hk, hs⟩, hc⟩, hn⟩, hq⟩ := hok
 obtain ⟨c, h1, h2⟩ := det_chain _ _ _ h
 have hl : (ops.toList.take N).length = N := by simp; omega
 rw [hl, RN_take N (Nat.le_refl _), frN_take N (Nat.le_refl _)] at h2
 refine wp_region_any hm ?_
 have h0 := wpAny_detT (Q := Q) (c := c) hk hs hc hn hq (fun i o hi ho => by
  have := h1 i o (by rw [List.getElem?_take, if_pos hi, Array.getElem?_toList]; exact ho)
  rwa [RN_take i (by omega), frN_take i (by omega)] at this) h2 (unlN N (Array.replicate ops.size false)) (Array.replicate ops.size false) ⟨s0, ds⟩ w.drew ⟨by simp, rfl, rfl, hJ, ?_, ?_⟩ (fun i hi => getD_replicate_false _ _) rfl
 ·have : unlN N (Array.replicate ops.size false) = N := by
   unfold unlN unlisted
   have e : (List.range N).filter (fun j => !(Array.replicate ops.size false).getD j false) = List.range N := by
    rw [List.filter_eq_self]
    intro j _
    rw [getD_replicate_false]; rfl
   rw [e, List.length_range]
  rw [this, show N + (ops.size - N) = ops.size by omega] at h0
  exact h0
 ·intro i o hi hl
  rw [getD_replicate_false] at hl; cases hl
 ·intro t ht
  have : lastW ops.toList (fun j => (Array.replicate ops.size false).getD j false) ops.size t = none := by
   have := lastW_eq (l := ops.toList) (p := fun j => (Array.replicate ops.size false).getD j false) (t := t) (i := 0) ops.size (Nat.zero_le _) (by
    intro j hj _
    simp [hj])
   rw [this]; rfl
  rw [this]
end
section
variable {P : Program} {ops : Array Oper} {ds : List Deferred} {J : World → Prop} {St : World → World → Prop} {Q : Exit → Act → World → Prop}
theorem Det.nil {R : Flo} {s : (Tmp → Value) → Array Value} (h : ∀ f w, J w → (∀ p ∈ R, p.2 (f p.1) w) → Q .normal ⟨s f, ds⟩ w) : Det P ops ds J St Q [] R s := h
theorem Det.val {o : Oper} {l : List Oper} {R : Flo} {s : (Tmp → Value) → Array Value} (v : Value) (hg : o.guard = none)
  (h : ∀ f (w : World), J w → (execOp (Act.eval ⟨s f, ds⟩) o).run P w = .ok (.value v) w) (hS : ∀ w, St w w)
  (hl : Det P ops ds J St Q l (addF R o.dst (.det v)) (fun f => putA (s f) o.dst v)) : Det P ops ds J St Q (o :: l) R s := by
 refine ⟨.det v, (fun r h => by cases h), ?_, hl⟩
 intro f w K hJ _ hK
 have hw : Region.wanted o (yielded ops (s f)) = true := by unfold Region.wanted; rw [hg]
 rw [if_pos hw]
 unfold Oper.wp; rw [h f w hJ]
 exact hK v w hJ (hS w) rfl
theorem Det.flo {o : Oper} {l : List Oper} {R : Flo} {s : (Tmp → Value) → Array Value} (r : Value → World → Prop) (hg : o.guard = none) (hd : o.dst.isSome = true) (hr : ∀ u w w', r u w → St w w' → r u w')
  (h : ∀ f (w : World) (K : Act → World → Prop), J w → (∀ p ∈ R, p.1 ∈ o.looksAt ops → p.2 (f p.1) w) → (∀ u w', J w' → St w w' → r u w' → K (Act.put ⟨s f, ds⟩ o.dst u) w') → o.wp P ⟨s f, ds⟩ w K NoQ)
  (hl : Det P ops ds J St Q l (addF R o.dst (.flo r)) (fun f => putA (s f) o.dst (f (o.dst.getD 0)))) : Det P ops ds J St Q (o :: l) R s := by
 refine ⟨.flo r, (fun r' h => by cases h; exact ⟨hd, hr⟩), ?_, hl⟩
 intro f w K hJ hR hK
 have hw : Region.wanted o (yielded ops (s f)) = true := by unfold Region.wanted; rw [hg]
 rw [if_pos hw]
 exact h f w K hJ hR hK
end
theorem Fr.of_bel {S : Nat → Prop} {w wr w' : World} (h : Fr S w wr) (hb : Below wr.heap.size wr w') : Fr S w w' := h.trans (Fr.of_below S hb)
theorem Fr.grown {S : Nat → Prop} {w wr w' : World} (h : Fr S w wr) {row : Option Nat} (hg : wr.grownBy w' row) (hr : ∀ k, row = some k → w.heap.size ≤ k) : Fr S w w' := by
 refine ⟨hg.os.trans h.os, hg.tape.trans h.tape, hg.output.trans h.output, Nat.le_trans h.size hg.size, fun k hk hn => ?_⟩
 rw [hg.block k (Nat.lt_of_lt_of_le hk h.size) (fun e => by have := hr k e.symm; omega)]
 exact h.block k hk hn
theorem Cur.grown {w w' : World} {g : Nat} (h : Cur w g) {row : Option Nat} (hg : w.grownBy w' row) (hr : ∀ k, row = some k → g < k) : Cur w' g := by
 obtain ⟨A, n, c, pos, st, h1, h2, h3, h4, h5, h6⟩ := h.ex
 refine ⟨A, n, c, pos, st, zAr h1 hg (fun k hk => by have := hr k hk; omega), h2, h3, h4, ?_, h6⟩
 intro hn
 obtain ⟨b, off, rfl, hl, hc⟩ := h5 hn
 refine ⟨b, off, rfl, Nat.lt_of_lt_of_le hl hg.size, fun k hk => ?_⟩
 obtain ⟨z, h0, h1', h2'⟩ := hc k hk
 exact ⟨z, h0, h1', (World.cell?_of_block (hg.block b hl (fun e => by have := hr b e.symm; have := h6 hn b ⟨off, rfl⟩; omega))).trans h2'⟩
structure DT (w wr : World) (g b0 b : Nat) (ps : List Int) (L : Value) (ls : List Int) (X : Value) (xs : List Int) : Prop where
 box : ∃ A c, wr.heap[b]? = some (.cells #[.slice A ps.length c, .slice none 0 0] 26 (0, 0)) ∧ wr.ownsRow w.heap.size 3 1 (.slice A ps.length c) ps.length (ints ps) ∧ ∀ k, (Value.slice A ps.length c).ownBlock = some k → L.ownBlock ≠ some k ∧ X.ownBlock ≠ some k
 last : wr.ownsRow w.heap.size 3 1 L ls.length (ints ls)
 next : wr.ownsRow w.heap.size 3 1 X xs.length (ints xs)
 ap : ∀ k, L.ownBlock = some k → X.ownBlock ≠ some k
 res : wr.heap[b0]? = some (.cells #[.slice none 0 0, .slice none 0 0] 26 (0, 0))
 cur : Cur wr g
 fr : Fr (· = g) w wr
 hb : b0 < b ∧ w.heap.size ≤ b0 ∧ g < w.heap.size
 nl : ∀ x ∈ ls, 0 ≤ x
 nx : ∀ x ∈ xs, 0 ≤ x
theorem DT.bel {w wr w' : World} {g b0 b : Nat} {ps ls xs : List Int} {L X : Value} (h : DT w wr g b0 b ps L ls X xs) (hb : Below wr.heap.size wr w') : DT w w' g b0 b ps L ls X xs := by
 obtain ⟨A, c, h1, h2, h3⟩ := h.box
 exact ⟨⟨A, c, zAg h1 hb, zAe h2 hb, h3⟩, zAe h.last hb, zAe h.next hb, h.ap, zAg h.res hb, h.cur.below hb, h.fr.of_bel hb, h.hb, h.nl, h.nx⟩
theorem DT.cs {w wr w' : World} {g b0 b : Nat} {ps ls xs : List Int} {L X : Value} (h : DT w wr g b0 b ps L ls X xs) (hf : Fr (· = g) wr w') (hc : Cur w' g) : DT w w' g b0 b ps L ls X xs := by
 obtain ⟨A, c, h1, h2, h3⟩ := h.box
 have hh := h.hb
 refine ⟨⟨A, c, bx_fr h1 hf (by omega), own_fr h2 hf (fun k hk e => by have := own_ge h2 k hk; omega), h3⟩, own_fr h.last hf (fun k hk e => by have := own_ge h.last k hk; omega), own_fr h.next hf (fun k hk e => by have := own_ge h.next k hk; omega), h.ap, bx_fr h.res hf (by omega), hc, h.fr.trans hf, h.hb, h.nl, h.nx⟩
theorem DT.start {w w1 : World} {g : Nat} (hc : Cur w1 g) (hf : Fr (· = g) (((w.alloc (.cells #[.slice none 0 0, .slice none 0 0] 26)).alloc (.cells #[.int .i64 0] 3)).alloc (.cells #[.slice (some ⟨w.heap.size + 1, 0, none⟩) 1 1, .slice none 0 0] 26)) w1) (hg : g < w.heap.size) :
  DT w (w1.alloc (.cells #[.int .i64 0] 3)) g w.heap.size (w.heap.size + 1 + 1) [0] (.slice (some ⟨w1.heap.size, 0, none⟩) 1 1) [0] (.slice none 0 0) [] := by
 have hs := hf.size
 simp at hs
 have h2 := bx_fr (zAk (w := (w.alloc (.cells #[.slice none 0 0, .slice none 0 0] 26)).alloc (.cells #[.int .i64 0] 3)) (.cells #[.slice (some ⟨w.heap.size + 1, 0, none⟩) 1 1, .slice none 0 0] 26) (k := w.heap.size + 1 + 1) (by simp)) hf (by show ¬ _ = _; omega)
 have h1 := bx_fr (zAu (zAk (w := w.alloc (.cells #[.slice none 0 0, .slice none 0 0] 26)) (.cells #[.int .i64 0] 3) (k := w.heap.size + 1) (by simp)) (.cells #[.slice (some ⟨w.heap.size + 1, 0, none⟩) 1 1, .slice none 0 0] 26)) hf (by show ¬ _ = _; omega)
 have h0 := bx_fr (zAu (zAu (zAk (w := w) (.cells #[.slice none 0 0, .slice none 0 0] 26) rfl) (.cells #[.int .i64 0] 3)) (.cells #[.slice (some ⟨w.heap.size + 1, 0, none⟩) 1 1, .slice none 0 0] 26)) hf (by show ¬ _ = _; omega)
 refine ⟨⟨_, 1, zAu h2 _, own_lit (cs := [.int .i64 0]) (n := 1) (zAu h1 _) rfl (by decide) (by omega), fun k hk => ⟨?_, by simp [Value.ownBlock]⟩⟩, own_lit (cs := [.int .i64 0]) (n := 1) (zAk _ rfl) rfl (by decide) (by omega), own_nil _ _ _ _, fun k hk => by simp [Value.ownBlock], zAu h0 _, hc.alloc _, ?_, by omega, by simp, by simp⟩
 ·simp [Value.ownBlock] at hk ⊢; omega
 ·exact (((((Fr.refl _ w).alloc _).alloc _).alloc _).trans hf).alloc _
theorem DT.put {w wr w1 : World} {g b0 b : Nat} {ps ls xs : List Int} {L X : Value} (h : DT w wr g b0 b ps L ls X xs) {x : Int} {A : Option Addr} {c : Nat} {v : Value}
  (h1 : wr.heap[b]? = some (.cells #[.slice A ps.length c, .slice none 0 0] 26 (0, 0))) (h2 : wr.ownsRow w.heap.size 3 1 (.slice A ps.length c) ps.length (ints ps))
  (h3 : ∀ k, (Value.slice A ps.length c).ownBlock = some k → L.ownBlock ≠ some k ∧ X.ownBlock ≠ some k)
  (hv : w1.ownsRow w.heap.size 3 1 v (ps.length + 1) (ints ps ++ [.int .i64 x])) (hg : wr.grownBy w1 (Value.slice A ps.length c).ownBlock) (hw : v.ownBlock = (Value.slice A ps.length c).ownBlock ∨ v.ownBlock = some wr.heap.size) :
  DT w (w1.setCell ⟨b, 0, none⟩ v) g b0 b (ps ++ [x]) L ls X xs := by
 obtain ⟨A', c', rfl, _⟩ := zAt hv
 have hh := h.hb
 have e1 : w1.heap[b]? = some (.cells #[.slice A ps.length c, .slice none 0 0] 26 (0, 0)) := zAr h1 hg (fun k hk => zAm h2 h1 (by decide) k hk)
 have eL : w1.ownsRow w.heap.size 3 1 L ls.length (ints ls) := own_grown h.last hg (fun k hk e => (h3 k e).1 hk)
 have eX : w1.ownsRow w.heap.size 3 1 X xs.length (ints xs) := own_grown h.next hg (fun k hk e => (h3 k e).2 hk)
 have hl : (ps ++ [x]).length = ps.length + 1 := by simp
 have hrow : ∀ k, (Value.slice A ps.length c).ownBlock = some k → w.heap.size ≤ k := fun k hk => own_ge h2 k hk
 have hlt : ∀ Y n ys, wr.ownsRow w.heap.size 3 1 Y n ys → ∀ k, Y.ownBlock = some k → k < wr.heap.size := fun Y n ys hy k hk => own_lt hy k hk
 refine ⟨⟨A', c', ?_, ?_, ?_⟩, zAo eL (zAm eL e1 (by decide)) _, zAo eX (zAm eX e1 (by decide)) _, h.ap, bx_set (zAr h.res hg (fun k hk => zAm h2 h.res (by decide) k hk)) (by show b0 ≠ b; omega) _, ?_, ?_, h.hb, h.nl, h.nx⟩
 ·rw [hl]; exact topo_set0 e1 _
 ·rw [hl, ints_snoc]; exact zAo hv (zAm hv e1 (by decide)) _
 ·intro k hk
  rw [hl] at hk
  rcases hw with hw | hw
  ·rw [hw] at hk; exact h3 k hk
  ·rw [hw] at hk
   injection hk with hk
   exact ⟨fun e => by have := hlt _ _ _ h.last k e; omega, fun e => by have := hlt _ _ _ h.next k e; omega⟩
 ·exact (h.cur.grown hg (fun k hk => by have := hrow k hk; omega)).set (by show g < b; omega) _
 ·exact (h.fr.grown hg hrow).setCell (Or.inr (by show w.heap.size ≤ b; omega)) _
theorem DT.app {w wr w1 : World} {g b0 b : Nat} {ps ls xs : List Int} {L X : Value} (h : DT w wr g b0 b ps L ls X xs) {x : Int} (hx : 0 ≤ x) {v : Value}
  (hv : w1.ownsRow w.heap.size 3 1 v (xs.length + 1) (ints xs ++ [.int .i64 x])) (hg : wr.grownBy w1 X.ownBlock) (hw : v.ownBlock = X.ownBlock ∨ v.ownBlock = some wr.heap.size) :
  DT w w1 g b0 b ps L ls v (xs ++ [x]) := by
 obtain ⟨A, c, h1, h2, h3⟩ := h.box
 have hh := h.hb
 have hrow : ∀ k, X.ownBlock = some k → w.heap.size ≤ k := fun k hk => own_ge h.next k hk
 refine ⟨⟨A, c, zAr h1 hg (fun k hk => zAm h.next h1 (by decide) k hk), own_grown h2 hg (fun k hk e => (h3 k hk).2 e), ?_⟩, own_grown h.last hg (fun k hk e => h.ap k hk e), ?_, ?_, zAr h.res hg (fun k hk => zAm h.next h.res (by decide) k hk), h.cur.grown hg (fun k hk => by have := hrow k hk; omega), h.fr.grown hg hrow, h.hb, h.nl, ?_⟩
 ·intro k hk
  refine ⟨(h3 k hk).1, ?_⟩
  rcases hw with hw | hw
  ·rw [hw]; exact (h3 k hk).2
  ·rw [hw]; intro e; injection e with e; have := own_lt h2 k hk; omega
 ·rw [ints_snoc, List.length_append]; exact hv
 ·intro k hk
  rcases hw with hw | hw
  ·rw [hw]; exact h.ap k hk
  ·rw [hw]; intro e; injection e with e; have := own_lt h.last k hk; omega
 ·intro y hy
  rcases List.mem_append.1 hy with hy | hy
  ·exact h.nx y hy
  ·simp at hy; omega
structure DN (w wr : World) (g b0 b : Nat) (ps : List Int) (ns : List Q) (L : Value) (ls : List Int) : Prop where
 box : TBox wr w.heap.size b ps ns
 last : wr.ownsRow w.heap.size 3 1 L ls.length (ints ls)
 res : wr.heap[b0]? = some (.cells #[.slice none 0 0, .slice none 0 0] 26 (0, 0))
 cur : Cur wr g
 fr : Fr (· = g) w wr
 hb : b0 < b ∧ w.heap.size ≤ b0 ∧ g < w.heap.size
 nl : ∀ x ∈ ls, 0 ≤ x
theorem DT.nodes {w wr : World} {g b0 b : Nat} {ps ls xs : List Int} {L X : Value} (h : DT w wr g b0 b ps L ls X xs) : DN w wr g b0 b ps [] L ls := by
 obtain ⟨A, c, h1, h2, h3⟩ := h.box
 exact ⟨⟨A, c, none, 0, h1, h2, own_nil _ _ _ _⟩, h.last, h.res, h.cur, h.fr, h.hb, h.nl⟩
theorem DN.bel {w wr w' : World} {g b0 b : Nat} {ps ls : List Int} {ns : List Q} {L : Value} (h : DN w wr g b0 b ps ns L ls) (hb : Below wr.heap.size wr w') : DN w w' g b0 b ps ns L ls :=
 ⟨h.box.bel hb, zAe h.last hb, zAg h.res hb, h.cur.below hb, h.fr.of_bel hb, h.hb, h.nl⟩
theorem DN.cs {w wr w' : World} {g b0 b : Nat} {ps ls : List Int} {ns : List Q} {L : Value} (h : DN w wr g b0 b ps ns L ls) (hf : Fr (· = g) wr w') (hc : Cur w' g) : DN w w' g b0 b ps ns L ls := by
 have hh := h.hb
 exact ⟨h.box.fr hf (by omega) (fun k hk => by omega), own_fr h.last hf (fun k hk e => by have := own_ge h.last k hk; omega), bx_fr h.res hf (by omega), hc, h.fr.trans hf, h.hb, h.nl⟩
theorem DN.put {w wr w1 : World} {g b0 b : Nat} {ps ls : List Int} {ns : List Q} {L : Value} (h : DN w wr g b0 b ps ns L ls) {q : Q} {A B : Option Addr} {c d : Nat} {v : Value}
  (h1 : wr.heap[b]? = some (.cells #[.slice A ps.length c, .slice B ns.length d] 26 (0, 0))) (h2 : wr.ownsRow w.heap.size 3 1 (.slice A ps.length c) ps.length (ints ps)) (h3 : wr.ownsRow w.heap.size 199 4 (.slice B ns.length d) ns.length (flat ns))
  (hv : w1.ownsRow w.heap.size 199 4 v (ns.length + 1) (flat ns ++ [.int .i64 q.t, .int .i64 q.a, .int .i64 q.b, .int .i64 q.c])) (hg : wr.grownBy w1 (Value.slice B ns.length d).ownBlock) : DN w (w1.setCell ⟨b, 1, none⟩ v) g b0 b ps (ns ++ [q]) L ls := by
 have hh := h.hb
 have hrow : ∀ k, (Value.slice B ns.length d).ownBlock = some k → w.heap.size ≤ k := fun k hk => own_ge h3 k hk
 have e1 : w1.heap[b]? = some (.cells #[.slice A ps.length c, .slice B ns.length d] 26 (0, 0)) := zAr h1 hg (fun k hk => zAm h3 h1 (by decide) k hk)
 have eL := own_grown h.last hg (fun k hk e => own_ap h3 h.last (by decide) k e hk)
 exact ⟨TBox.put1 h1 h2 h3 hv hg, zAo eL (zAm eL e1 (by decide)) _, bx_set (zAr h.res hg (fun k hk => zAm h3 h.res (by decide) k hk)) (by show b0 ≠ b; omega) _,
  (h.cur.grown hg (fun k hk => by have := hrow k hk; omega)).set (by show g < b; omega) _, (h.fr.grown hg hrow).setCell (Or.inr (by show w.heap.size ≤ b; omega)) _, h.hb, h.nl⟩
structure JN (w wr : World) (g b0 b : Nat) (ps : List Int) (ns : List Q) (L : Value) (ls : List Int) (A B : Option Addr) (c d : Nat) : Prop where
 dn : DN w wr g b0 b ps ns L ls
 bx : wr.heap[b]? = some (.cells #[.slice A ps.length c, .slice B ns.length d] 26 (0, 0))
 oa : wr.ownsRow w.heap.size 3 1 (.slice A ps.length c) ps.length (ints ps)
 ob : wr.ownsRow w.heap.size 199 4 (.slice B ns.length d) ns.length (flat ns)
theorem JN.bel {w wr w' : World} {g b0 b : Nat} {ps : List Int} {ns : List Q} {L : Value} {ls : List Int} {A B : Option Addr} {c d : Nat} (h : JN w wr g b0 b ps ns L ls A B c d) (hb : Below wr.heap.size wr w') : JN w w' g b0 b ps ns L ls A B c d :=
 ⟨h.dn.bel hb, zAg h.bx hb, zAe h.oa hb, zAe h.ob hb⟩
theorem JN.cs {w wr w' : World} {g b0 b : Nat} {ps : List Int} {ns : List Q} {L : Value} {ls : List Int} {A B : Option Addr} {c d : Nat} (h : JN w wr g b0 b ps ns L ls A B c d) (hf : Fr (· = g) wr w') (hc : Cur w' g) : JN w w' g b0 b ps ns L ls A B c d := by
 have hh := h.dn.hb
 exact ⟨h.dn.cs hf hc, bx_fr h.bx hf (by omega), own_fr h.oa hf (fun k hk e => by have := own_ge h.oa k hk; omega), own_fr h.ob hf (fun k hk e => by have := own_ge h.ob k hk; omega)⟩
structure JT (w wr : World) (g b0 b : Nat) (ps : List Int) (ns : List Q) (A B : Option Addr) (c d : Nat) : Prop where
 bx : wr.heap[b]? = some (.cells #[.slice A ps.length c, .slice B ns.length d] 26 (0, 0))
 oa : wr.ownsRow w.heap.size 3 1 (.slice A ps.length c) ps.length (ints ps)
 ob : wr.ownsRow w.heap.size 199 4 (.slice B ns.length d) ns.length (flat ns)
 res : wr.heap[b0]? = some (.cells #[.slice none 0 0, .slice none 0 0] 26 (0, 0))
 cur : Cur wr g
 fr : Fr (· = g) w wr
 hb : b0 < b ∧ w.heap.size ≤ b0 ∧ g < w.heap.size
theorem JT.bel {w wr w' : World} {g b0 b : Nat} {ps : List Int} {ns : List Q} {A B : Option Addr} {c d : Nat} (h : JT w wr g b0 b ps ns A B c d) (hb : Below wr.heap.size wr w') : JT w w' g b0 b ps ns A B c d :=
 ⟨zAg h.bx hb, zAe h.oa hb, zAe h.ob hb, zAg h.res hb, h.cur.below hb, h.fr.of_bel hb, h.hb⟩
theorem JT.cs {w wr w' : World} {g b0 b : Nat} {ps : List Int} {ns : List Q} {A B : Option Addr} {c d : Nat} (h : JT w wr g b0 b ps ns A B c d) (hf : Fr (· = g) wr w') (hc : Cur w' g) : JT w w' g b0 b ps ns A B c d := by
 have hh := h.hb
 exact ⟨bx_fr h.bx hf (by omega), own_fr h.oa hf (fun k hk e => by have := own_ge h.oa k hk; omega), own_fr h.ob hf (fun k hk e => by have := own_ge h.ob k hk; omega), bx_fr h.res hf (by omega), hc, h.fr.trans hf, hh⟩
theorem JT.put {w wr w1 : World} {g b0 b : Nat} {ps : List Int} {ns : List Q} {A B : Option Addr} {c d : Nat} (h : JT w wr g b0 b ps ns A B c d) {x : Int} {v : Value}
  (hv : w1.ownsRow w.heap.size 3 1 v (ps.length + 1) (ints ps ++ [.int .i64 x])) (hg : wr.grownBy w1 (Value.slice A ps.length c).ownBlock) :
  ∃ A' c', JT w (w1.setCell ⟨b, 0, none⟩ v) g b0 b (ps ++ [x]) ns A' B c' d := by
 obtain ⟨A', c', rfl, _⟩ := zAt hv
 have hh := h.hb
 have hl : (ps ++ [x]).length = ps.length + 1 := by simp
 have hrow : ∀ k, (Value.slice A ps.length c).ownBlock = some k → w.heap.size ≤ k := fun k hk => own_ge h.oa k hk
 have e1 := zAr h.bx hg (fun k hk => zAm h.oa h.bx (by decide) k hk)
 have e3 : w1.ownsRow w.heap.size 199 4 (.slice B ns.length d) ns.length (flat ns) := own_grown h.ob hg (fun k hk e => by
  have q1 := own_ap h.oa h.ob (by decide) k e
  exact q1 hk)
 refine ⟨A', c', ?_, ?_, zAo e3 (zAm e3 e1 (by decide)) _, bx_set (zAr h.res hg (fun k hk => zAm h.oa h.res (by decide) k hk)) (by show b0 ≠ b; omega) _, (h.cur.grown hg (fun k hk => by have := hrow k hk; omega)).set (by show g < b; omega) _, (h.fr.grown hg hrow).setCell (Or.inr (by show w.heap.size ≤ b; omega)) _, hh⟩
 ·rw [hl]; exact topo_set0 e1 _
 ·rw [hl, ints_snoc]; exact zAo hv (zAm hv e1 (by decide)) _
def rX : Value → World → Prop := fun u _ => ∃ x : Int, u = .int .i64 x
end Go.Proofs.YtnphjhbfpoekpaaGreat
