import Derived.Test.YtnphjhbfpoekpaaGreatApPh
import Derived.Test.YtnphjhbfpoekpaaGreatA19Ph
import Derived.Test.YtnphjhbfpoekpaaGreatA22Ph
import Derived.Test.YtnphjhbfpoekpaaGreatA13Ph
import Derived.Test.YtnphjhbfpoekpaaGreatA8Ph
namespace Go.Proofs.YtnphjhbfpoekpaaGreat
set_option linter.unusedSimpArgs false
set_option linter.unusedVariables false
set_option linter.unnecessarySimpa false
open Go.RowKit Go.Lib
def tsF (f : Int) (o : List Int) (q : Q) : List Int := if f < q.t ∧ q.t ∉ o then rise q.t o else o
def tsP (f : Int) (o : List Int) (ps : List Q) : List Int := ps.foldl (tsF f) o
def tsA (f : Int) (pss : List (List Q)) : List Int := pss.foldl (tsP f) [f]
theorem tsF_yes {f : Int} {o : List Int} {q : Q} (h1 : f < q.t) (h2 : hasZ o q.t = false) : tsF f o q = rise q.t o := by
 unfold tsF
 rw [if_pos ⟨h1, fun h => by rw [hasZ_iff.2 h] at h2; cases h2⟩]
theorem tsF_no1 {f : Int} {o : List Int} {q : Q} (h1 : ¬ f < q.t) : tsF f o q = o := if_neg fun h => h1 h.1
theorem tsF_no2 {f : Int} {o : List Int} {q : Q} (h2 : hasZ o q.t = true) : tsF f o q = o := if_neg fun h => h.2 (hasZ_iff.1 h2)
theorem tsF_inv {f : Int} {o : List Int} {q : Q} (h : o.Pairwise (· < ·)) : (tsF f o q).Pairwise (· < ·) ∧ ∀ x, x ∈ tsF f o q ↔ x ∈ o ∨ (f < q.t ∧ x = q.t) := by
 by_cases hc : f < q.t ∧ q.t ∉ o
 ·have e : tsF f o q = rise q.t o := if_pos hc
  rw [e]
  refine ⟨rise_rise _ _ h hc.2, fun x => ?_⟩
  rw [rise_mem]
  constructor
  ·rintro (h | h)
   ·exact Or.inr ⟨hc.1, h⟩
   ·exact Or.inl h
  ·rintro (h | h)
   ·exact Or.inr h
   ·exact Or.inl h.2
 ·have e : tsF f o q = o := if_neg hc
  rw [e]
  refine ⟨h, fun x => ⟨Or.inl, ?_⟩⟩
  rintro (h | ⟨h1, rfl⟩)
  ·exact h
  ·exact Classical.byContradiction fun h2 => hc ⟨h1, h2⟩
theorem tsP_inv {f : Int} : ∀ (ps : List Q) (o : List Int), o.Pairwise (· < ·) → (tsP f o ps).Pairwise (· < ·) ∧ ∀ x, x ∈ tsP f o ps ↔ x ∈ o ∨ ∃ q ∈ ps, f < q.t ∧ x = q.t
 | [], o, h => ⟨h, fun x => by simp [tsP]⟩
 | q :: r, o, h => by
  obtain ⟨h1, h2⟩ := tsF_inv (f := f) (q := q) h
  obtain ⟨h3, h4⟩ := tsP_inv r (tsF f o q) h1
  refine ⟨h3, fun x => ?_⟩
  show x ∈ tsP f (tsF f o q) r ↔ _
  rw [h4, h2]
  simp only [List.mem_cons, exists_eq_or_imp, or_assoc]
theorem tsA_inv {f : Int} (pss : List (List Q)) : (tsA f pss).Pairwise (· < ·) ∧ ∀ x, x ∈ tsA f pss ↔ x = f ∨ ∃ p ∈ pss, ∃ q ∈ p, f < q.t ∧ x = q.t := by
 have key : ∀ (pss : List (List Q)) (o : List Int), o.Pairwise (· < ·) → (pss.foldl (tsP f) o).Pairwise (· < ·) ∧ ∀ x, x ∈ pss.foldl (tsP f) o ↔ x ∈ o ∨ ∃ p ∈ pss, ∃ q ∈ p, f < q.t ∧ x = q.t := by
  intro pss
  induction pss with
  | nil => intro o h; exact ⟨h, fun x => by simp⟩
  | cons p r ih =>
   intro o h
   obtain ⟨h1, h2⟩ := tsP_inv (f := f) p o h
   obtain ⟨h3, h4⟩ := ih _ h1
   refine ⟨h3, fun x => ?_⟩
   show x ∈ r.foldl (tsP f) (tsP f o p) ↔ _
   rw [h4, h2]
   simp only [List.mem_cons, exists_eq_or_imp, or_assoc]
 obtain ⟨h1, h2⟩ := key pss [f] (by simp)
 exact ⟨h1, fun x => by rw [show tsA f pss = pss.foldl (tsP f) [f] from rfl, h2]; simp⟩
theorem times_of {r : Rm} {f : Int} {pss : List (List Q)} {l : List Int} (hp : ∀ p, p ∈ pss ↔ p ∈ r.lics :: r.profs) (h : l.Pairwise (· < ·)) (hm : ∀ x, x ∈ l ↔ x = f ∨ ∃ p ∈ pss, ∃ q ∈ p, f < q.t ∧ x = q.t) : l = timesE r f := by
 refine timesE_uniq h fun x => ?_
 rw [hm]
 unfold changeAt
 constructor
 ·rintro (h | ⟨p, h1, q, h2, h3, rfl⟩)
  ·exact Or.inl h
  ·exact Or.inr ⟨h3, p, (hp p).1 h1, q, h2, rfl⟩
 ·rintro (h | ⟨h3, p, h1, q, h2, rfl⟩)
  ·exact Or.inl h
  ·exact Or.inr ⟨p, (hp p).2 h1, q, h2, h3, rfl⟩
theorem tsA_eq {r : Rm} {f : Int} : tsA f (r.profs ++ [r.lics]) = timesE r f :=
 times_of (pss := r.profs ++ [r.lics]) (fun p => by simp [or_comm]) (tsA_inv _).1 (tsA_inv _).2
theorem tsP_len (f : Int) : ∀ (ps : List Q) (o : List Int), (tsP f o ps).length ≤ o.length + ps.length
 | [], o => by simp [tsP]
 | q :: r, o => by
  have h1 : (tsF f o q).length ≤ o.length + 1 := by
   unfold tsF
   split
   ·rw [rise_len]; omega
   ·omega
  have h2 := tsP_len f r (tsF f o q)
  show (tsP f (tsF f o q) r).length ≤ _
  rw [List.length_cons]; omega
theorem tsP_snoc {f : Int} {o : List Int} {ps : List Q} {k : Nat} {q : Q} (h : ps[k]? = some q) : tsP f o (ps.take (k + 1)) = tsF f (tsP f o (ps.take k)) q := by
 unfold tsP; rw [zAy h, List.foldl_append]; rfl
def tsK (f : Int) (pss : List (List Q)) (k : Nat) : List Int := (pss.take k).foldl (tsP f) [f]
theorem tsK_snoc {f : Int} {pss : List (List Q)} {k : Nat} {ps : List Q} (h : pss[k]? = some ps) : tsK f pss (k + 1) = tsP f (tsK f pss k) ps := by
 unfold tsK; rw [zAy h, List.foldl_append]; rfl
theorem tsK_len {f : Int} {pss : List (List Q)} {m : Nat} (h : ∀ p ∈ pss, p.length ≤ m) : ∀ k, (tsK f pss k).length ≤ 1 + k * m
 | 0 => by simp [tsK]
 | k + 1 => by
  have h1 := tsK_len (f := f) h k
  rw [Nat.add_mul, Nat.one_mul]
  cases hp : pss[k]? with
  | none =>
   have e : tsK f pss (k + 1) = tsK f pss k := by
    have := List.getElem?_eq_none_iff.1 hp
    unfold tsK; rw [List.take_of_length_le (by omega), List.take_of_length_le (by omega)]
   rw [e]; omega
  | some p =>
   rw [tsK_snoc hp]
   have h2 := tsP_len f p (tsK f pss k)
   have h3 := h p (List.mem_of_getElem? hp)
   omega
def tiF (f : Int) (o : List Int) (q : Q) : List Int := if f < q.t then o ++ [q.t] else o
def tiP (f : Int) (o : List Int) (ps : List Q) : List Int := ps.foldl (tiF f) o
def tiK (f : Int) (pss : List (List Q)) (k : Nat) : List Int := (pss.take k).foldl (tiP f) [f]
theorem tiP_snoc {f : Int} {o : List Int} {ps : List Q} {k : Nat} {q : Q} (h : ps[k]? = some q) : tiP f o (ps.take (k + 1)) = tiF f (tiP f o (ps.take k)) q := by
 unfold tiP; rw [zAy h, List.foldl_append]; rfl
theorem tiK_snoc {f : Int} {pss : List (List Q)} {k : Nat} {ps : List Q} (h : pss[k]? = some ps) : tiK f pss (k + 1) = tiP f (tiK f pss k) ps := by
 unfold tiK; rw [zAy h, List.foldl_append]; rfl
theorem tiP_len (f : Int) : ∀ (ps : List Q) (o : List Int), (tiP f o ps).length ≤ o.length + ps.length
 | [], o => by simp [tiP]
 | q :: r, o => by
  have h1 : (tiF f o q).length ≤ o.length + 1 := by unfold tiF; split <;> simp
  have h2 := tiP_len f r (tiF f o q)
  show (tiP f (tiF f o q) r).length ≤ _
  rw [List.length_cons]; omega
theorem tiK_len {f : Int} {pss : List (List Q)} {m : Nat} (h : ∀ p ∈ pss, p.length ≤ m) : ∀ k, (tiK f pss k).length ≤ 1 + k * m
 | 0 => by simp [tiK]
 | k + 1 => by
  have h1 := tiK_len (f := f) h k
  rw [Nat.add_mul, Nat.one_mul]
  cases hp : pss[k]? with
  | none =>
   have e : tiK f pss (k + 1) = tiK f pss k := by
    have := List.getElem?_eq_none_iff.1 hp
    unfold tiK; rw [List.take_of_length_le (by omega), List.take_of_length_le (by omega)]
   rw [e]; omega
  | some p =>
   rw [tiK_snoc hp]
   have h2 := tiP_len f p (tiK f pss k)
   have h3 := h p (List.mem_of_getElem? hp)
   omega
theorem tiP_mem {f : Int} : ∀ (ps : List Q) (o : List Int) (x : Int), x ∈ tiP f o ps ↔ x ∈ o ∨ ∃ q ∈ ps, f < q.t ∧ x = q.t
 | [], o, x => by simp [tiP]
 | q :: r, o, x => by
  show x ∈ tiP f (tiF f o q) r ↔ _
  rw [tiP_mem r]
  have h1 : x ∈ tiF f o q ↔ x ∈ o ∨ (f < q.t ∧ x = q.t) := by
   unfold tiF
   split
   ·rename_i h; simp [h]
   ·rename_i h; simp [h]
  rw [h1]
  simp only [List.mem_cons, exists_eq_or_imp, or_assoc]
theorem tiK_mem {f : Int} {pss : List (List Q)} {k : Nat} (hk : pss.length ≤ k) (x : Int) : x ∈ tiK f pss k ↔ x = f ∨ ∃ p ∈ pss, ∃ q ∈ p, f < q.t ∧ x = q.t := by
 have key : ∀ (pss : List (List Q)) (o : List Int), x ∈ pss.foldl (tiP f) o ↔ x ∈ o ∨ ∃ p ∈ pss, ∃ q ∈ p, f < q.t ∧ x = q.t := by
  intro pss
  induction pss with
  | nil => intro o; simp
  | cons p r ih =>
   intro o
   show x ∈ r.foldl (tiP f) (tiP f o p) ↔ _
   rw [ih, tiP_mem]
   simp only [List.mem_cons, exists_eq_or_imp, or_assoc]
 unfold tiK
 rw [List.take_of_length_le hk, key]
 simp
theorem comp_rise (zs : List Int) : (compZ (sortZ zs)).Pairwise (· < ·) ∧ ∀ x, x ∈ compZ (sortZ zs) ↔ x ∈ zs := by
 have hp : (sortZ zs).Pairwise fun x y => x ≤ y := by
  have := List.pairwise_mergeSort (le := fun (x y : Int) => decide (x ≤ y)) (by intro a b c h1 h2; simp at *; omega) (by intro a b; simp; omega) zs
  exact this.imp (by intro a b h; simpa using h)
 have hmem : ∀ x, x ∈ sortZ zs ↔ x ∈ zs := by intro x; exact List.mem_mergeSort
 generalize sortZ zs = s at *
 refine ⟨cupto_rise _ ?_ _ (Nat.le_refl _), fun x => ?_⟩
 ·intro i j hij hj
  have hj' : j < s.length := by simpa using hj
  rw [getElem!_pos s.toArray i (by simp; omega), getElem!_pos s.toArray j (by simpa using hj')]
  simp only [zgc]
  by_cases e : i = j
  ·subst e; exact Int.le_refl _
  ·exact List.pairwise_iff_getElem.1 hp i j (by omega) hj' (by omega)
 ·rw [← hmem]
  unfold compZ
  rw [cupto_mem]
  constructor
  ·rintro ⟨j, h1, rfl⟩
   have h1' : j < s.length := by simpa using h1
   rw [getElem!_pos s.toArray j h1]
   simp
  ·intro hx
   obtain ⟨j, h1, rfl⟩ := List.getElem_of_mem hx
   exact ⟨j, by simpa using h1, by rw [getElem!_pos s.toArray j (by simpa using h1)]; simp⟩
theorem tiK_eq {r : Rm} {f : Int} : compZ (sortZ (tiK f (r.lics :: r.profs) (r.profs.length + 1))) = timesE r f :=
 times_of (pss := r.lics :: r.profs) (fun p => Iff.rfl) (comp_rise _).1 (fun x => by rw [(comp_rise _).2]; exact tiK_mem (by simp) x)
structure PL (w : World) (zs : List Value) (pss : List (List Q)) : Prop where
 len : zs.length = pss.length
 each : ∀ (k : Nat) ps, pss[k]? = some ps → ∃ B c, zs[k]? = some (.slice B ps.length c) ∧ ps.length ≤ 1048576 ∧ Rd w B ps.length 4 (flat ps) ∧ ∀ g, B = some ⟨g, 0, none⟩ → g < w.heap.size
theorem PL.below {w w' : World} {zs : List Value} {pss : List (List Q)} (h : PL w zs pss) (hb : Below w.heap.size w w') : PL w' zs pss :=
 ⟨h.len, fun k ps hp => by
  obtain ⟨B, c, h1, h2, h3, h4⟩ := h.each k ps hp
  exact ⟨B, c, h1, h2, h3.below h4 hb, zAi h4 hb⟩⟩
theorem OwnP.pl {w : World} {lo : Nat} {v : Value} {n : Nat} {xs : List Value} {pss : List (List Q)} (h : OwnP w lo v n xs pss) : PL w xs pss := by
 have h1 := h.xlen
 have h2 := h.len
 refine ⟨by omega, fun k ps hp => ?_⟩
 have hk : k < xs.length := by have := (List.getElem?_eq_some_iff.1 hp).1; omega
 obtain ⟨e1, e2⟩ := h.each k _ ps (zgh hk) hp
 obtain ⟨B, c, e3, e4⟩ := zAq e2
 exact ⟨B, c, by rw [zgh hk, e3], e1, e4, zAz (e3 ▸ e2)⟩
theorem PL.snoc {w : World} {zs : List Value} {pss : List (List Q)} {B : Option Addr} {c : Nat} {ps : List Q} (h : PL w zs pss) (h1 : ps.length ≤ 1048576) (h2 : Rd w B ps.length 4 (flat ps)) (h3 : ∀ g, B = some ⟨g, 0, none⟩ → g < w.heap.size) : PL w (zs ++ [.slice B ps.length c]) (pss ++ [ps]) := by
 refine ⟨by simp [h.len], fun k p hp => ?_⟩
 have hl := h.len
 by_cases hk : k < pss.length
 ·rw [List.getElem?_append_left hk] at hp
  obtain ⟨B', c', e1, e2⟩ := h.each k p hp
  exact ⟨B', c', by rw [List.getElem?_append_left (by omega)]; exact e1, e2⟩
 ·have hk2 : k = pss.length := by have := (List.getElem?_eq_some_iff.1 hp).1; simp at this; omega
  subst hk2
  simp at hp; subst hp
  exact ⟨B, c, by rw [← hl]; simp, h1, h2, h3⟩
theorem PL.cons {w : World} {zs : List Value} {pss : List (List Q)} {B : Option Addr} {c : Nat} {ps : List Q} (h : PL w zs pss) (h1 : ps.length ≤ 1048576) (h2 : Rd w B ps.length 4 (flat ps)) (h3 : ∀ g, B = some ⟨g, 0, none⟩ → g < w.heap.size) : PL w (.slice B ps.length c :: zs) (ps :: pss) := by
 refine ⟨by simp [h.len], fun k p hp => ?_⟩
 cases k with
 | zero => simp at hp; subst hp; exact ⟨B, c, rfl, h1, h2, h3⟩
 | succ k => simpa using h.each k p (by simpa using hp)
theorem PL.one {w : World} {zs : List Value} {pss : List (List Q)} (h : PL w zs pss) : ∀ u ∈ zs, u.oneCell' = true := by
 intro u hu
 obtain ⟨k, hk, rfl⟩ := List.getElem_of_mem hu
 have hl := h.len
 obtain ⟨B, c, e1, _⟩ := h.each k _ (zgh (by omega))
 rw [zgh hk] at e1
 rw [Option.some.inj e1]; rfl
theorem own_put {w : World} {lo : Nat} {e : TypeId} {size g n c i : Nat} {xs : List Value} {u : Value} (h : w.ownsRow lo e size (.slice (some ⟨g, 0, none⟩) n c) n xs) (_ : i < n * size) : (w.setCell ⟨g, i, none⟩ u).ownsRow lo e size (.slice (some ⟨g, 0, none⟩) n c) n (xs.set i u) := by
 obtain ⟨hl, h⟩ := h
 rcases h with ⟨hv, _⟩ | ⟨g', cap, cur, hv, hg, hh, h1, h2, h3, h4⟩
 ·injection hv with a1; cases a1
 ·injection hv with a1 a2 a3
  injection a1 with a1
  injection a1 with a1
  subst a1 a3
  refine ⟨by simpa using hl, Or.inr ⟨g, c, cur.setIfInBounds i u, rfl, hg, heap_set hh, h1, h2, by simpa using h3, ?_⟩⟩
  rw [Array.toList_setIfInBounds, ← h4, List.take_set]
theorem own_frz {w : World} {lo : Nat} {e : TypeId} {size g n c : Nat} {xs : List Value} (h : w.ownsRow lo e size (.slice (some ⟨g, 0, none⟩) n c) n xs) : ∀ o, w.frozen? ⟨g, o, none⟩ = false := by
 rcases h.2 with ⟨hv, _⟩ | ⟨g', cap, cur, hv, hg, hh, _⟩
 ·injection hv with a1; cases a1
 ·injection hv with a1 a2 a3
  injection a1 with a1
  injection a1 with a1
  subst a1
  exact fun _ => frozen_of_heap hh
end Go.Proofs.YtnphjhbfpoekpaaGreat
