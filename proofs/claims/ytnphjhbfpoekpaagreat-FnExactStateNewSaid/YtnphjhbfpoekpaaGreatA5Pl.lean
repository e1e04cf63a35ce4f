import Derived.Test.YtnphjhbfpoekpaaGreatA3Pl
import Derived.IntWalk
import Derived.Test.YtnphjhbfpoekpaaGreatA4Pl
import Derived.Deep.DeepCutAuto
namespace Go.Proofs.YtnphjhbfpoekpaaGreat
set_option linter.unusedSimpArgs false
set_option linter.unusedVariables false
set_option linter.unnecessarySimpa false
def par (ps : List Int) (s : Nat) : Nat := (ps.getD s 0).toNat
def parOk (ps : List Int) : Prop := ∀ s, 1 ≤ s → s < ps.length → 0 ≤ ps.getD s 0 ∧ ps.getD s 0 < s
theorem par_lt {ps : List Int} (h : parOk ps) {s : Nat} (h1 : 1 ≤ s) (hs : s < ps.length) : par ps s < s := by
 have := h s h1 hs; unfold par; omega
def depN (ps : List Int) : Nat → Nat → Nat
 | 0, _ => 0
 | f + 1, s => if s = 0 then 0 else depN ps f (par ps s) + 1
def dep (ps : List Int) (s : Nat) : Nat := depN ps s s
theorem depN_eq {ps : List Int} (h : parOk ps) : ∀ f s, s ≤ f → s < ps.length → depN ps f s = dep ps s := by
 intro f
 induction f using Nat.strongRecOn with
 | _ f ih =>
  intro s hs hl
  unfold dep
  cases f with
  | zero => have : s = 0 := by omega
            subst this; rfl
  | succ f =>
   cases s with
   | zero => simp [depN]
   | succ s =>
    have hp := par_lt h (s := s + 1) (by omega) hl
    simp only [depN]
    rw [if_neg (by omega), if_neg (by omega), ih f (by omega) _ (by omega) (by omega), ih s (by omega) _ (by omega) (by omega)]
theorem dep_zero (ps : List Int) : dep ps 0 = 0 := rfl
theorem dep_pos {ps : List Int} (h : parOk ps) {s : Nat} (h1 : 1 ≤ s) (hs : s < ps.length) : dep ps s = dep ps (par ps s) + 1 := by
 have hp := par_lt h h1 hs
 cases s with
 | zero => omega
 | succ s =>
  show (if s + 1 = 0 then 0 else depN ps s (par ps (s + 1)) + 1) = _
  rw [if_neg (by omega), depN_eq h s _ (by omega) (by omega)]
theorem dep_le {ps : List Int} (h : parOk ps) : ∀ s, s < ps.length → dep ps s ≤ s := by
 intro s
 induction s using Nat.strongRecOn with
 | _ s ih =>
  intro hs
  by_cases h1 : 1 ≤ s
  ·have hp := par_lt h h1 hs
   rw [dep_pos h h1 hs]
   have := ih _ hp (by omega)
   omega
  ·have : s = 0 := by omega
   subst this; simp [dep_zero]
def upN (ps : List Int) : Nat → Nat → List Nat
 | 0, s => [s]
 | f + 1, s => if s = 0 then [s] else s :: upN ps f (par ps s)
def up (ps : List Int) (s : Nat) : List Nat := upN ps s s
theorem upN_eq {ps : List Int} (h : parOk ps) : ∀ f s, s ≤ f → s < ps.length → upN ps f s = up ps s := by
 intro f
 induction f using Nat.strongRecOn with
 | _ f ih =>
  intro s hs hl
  unfold up
  cases f with
  | zero => have : s = 0 := by omega
            subst this; rfl
  | succ f =>
   cases s with
   | zero => simp [upN]
   | succ s =>
    have hp := par_lt h (s := s + 1) (by omega) hl
    simp only [upN]
    rw [if_neg (by omega), if_neg (by omega), ih f (by omega) _ (by omega) (by omega), ih s (by omega) _ (by omega) (by omega)]
theorem up_zero (ps : List Int) : up ps 0 = [0] := rfl
theorem up_pos {ps : List Int} (h : parOk ps) {s : Nat} (h1 : 1 ≤ s) (hs : s < ps.length) : up ps s = s :: up ps (par ps s) := by
 have hp := par_lt h h1 hs
 cases s with
 | zero => omega
 | succ s =>
  show (if s + 1 = 0 then [s + 1] else (s + 1) :: upN ps s (par ps (s + 1))) = _
  rw [if_neg (by omega), upN_eq h s _ (by omega) (by omega)]
theorem up_len {ps : List Int} (h : parOk ps) : ∀ s, s < ps.length → (up ps s).length = dep ps s + 1 := by
 intro s
 induction s using Nat.strongRecOn with
 | _ s ih =>
  intro hs
  by_cases h1 : 1 ≤ s
  ·have hp := par_lt h h1 hs
   rw [dep_pos h h1 hs, up_pos h h1 hs, List.length_cons, ih _ hp (by omega)]
  ·have : s = 0 := by omega
   subst this; rfl
theorem up_self {ps : List Int} (s : Nat) : s ∈ up ps s := by
 unfold up; cases s <;> simp [upN]
def isKid (ps : List Int) (s i : Nat) : Bool := decide (1 ≤ i) && decide (ps.getD i 0 = s)
def kids (ps : List Int) (s : Nat) : List Nat := (List.range ps.length).filter (isKid ps s)
theorem mem_kids {ps : List Int} {s i : Nat} : i ∈ kids ps s ↔ i < ps.length ∧ 1 ≤ i ∧ ps.getD i 0 = s := by
 unfold kids isKid
 rw [List.mem_filter, List.mem_range]
 simp
theorem kid_par {ps : List Int} {s i : Nat} (h : i ∈ kids ps s) : par ps i = s := by
 have := mem_kids.1 h; unfold par; omega
theorem kid_gt {ps : List Int} (hp : parOk ps) {s i : Nat} (h : i ∈ kids ps s) : s < i := by
 have h1 := mem_kids.1 h; have := hp i h1.2.1 h1.1; omega
def leafB (ps : List Int) (s : Nat) : Bool := (kids ps s).isEmpty
def comb (l : List Int) : Int := match l with
 | [] => 0
 | x :: r => if x < 0 then -1 else if r.all (· == x) then x + 1 else -1
def levN (ps : List Int) : Nat → Nat → Int
 | 0, _ => 0
 | f + 1, s => comb ((kids ps s).map (levN ps f))
def lev (ps : List Int) (s : Nat) : Int := levN ps (ps.length - s) s
theorem levN_eq {ps : List Int} (h : parOk ps) : ∀ f s, ps.length - s ≤ f → s < ps.length → levN ps f s = lev ps s := by
 intro f
 induction f using Nat.strongRecOn with
 | _ f ih =>
  intro s hf hs
  unfold lev
  cases f with
  | zero => omega
  | succ f =>
   obtain ⟨g, hg⟩ : ∃ g, ps.length - s = g + 1 := ⟨ps.length - s - 1, by omega⟩
   rw [hg]
   show comb _ = comb _
   congr 1
   apply List.map_congr_left
   intro k hk
   have h1 := (mem_kids.1 hk).1
   have h2 := kid_gt h hk
   rw [ih f (by omega) k (by omega) h1]
   by_cases hgf : g < f + 1
   ·exact (ih g hgf k (by omega) h1).symm
   ·have : g = f := by omega
    subst this; exact (ih g (by omega) k (by omega) h1).symm
theorem lev_eq {ps : List Int} (h : parOk ps) {s : Nat} (hs : s < ps.length) : lev ps s = comb ((kids ps s).map (lev ps)) := by
 unfold lev
 obtain ⟨g, hg⟩ : ∃ g, ps.length - s = g + 1 := ⟨ps.length - s - 1, by omega⟩
 rw [hg]
 show comb _ = comb _
 congr 1
 apply List.map_congr_left
 intro k hk
 exact levN_eq h g k (by have := kid_gt h hk; omega) (mem_kids.1 hk).1
theorem leaf_below {ps : List Int} (h : parOk ps) : ∀ d s, ps.length - s ≤ d → s < ps.length → ∃ l, l < ps.length ∧ leafB ps l = true ∧ s ∈ up ps l := by
 intro d
 induction d with
 | zero => intro s h1 h2; omega
 | succ d ih =>
  intro s h1 h2
  by_cases hl : leafB ps s = true
  ·exact ⟨s, h2, hl, up_self s⟩
  ·obtain ⟨k, hk⟩ : ∃ k, k ∈ kids ps s := by
    unfold leafB at hl
    cases hks : kids ps s with
    | nil => rw [hks] at hl; simp at hl
    | cons k r => exact ⟨k, by simp⟩
   have hgt := kid_gt h hk
   have hkn := (mem_kids.1 hk).1
   obtain ⟨l, hl1, hl2, hl3⟩ := ih k (by omega) hkn
   refine ⟨l, hl1, hl2, ?_⟩
   have : ∀ l, l < ps.length → k ∈ up ps l → s ∈ up ps l := by
    intro l
    induction l using Nat.strongRecOn with
    | _ l ihl =>
     intro hll hkl
     by_cases h3 : 1 ≤ l
     ·have hp := par_lt h h3 hll
      rw [up_pos h h3 hll] at hkl ⊢
      rcases List.mem_cons.1 hkl with rfl | hkl
      ·refine List.mem_cons_of_mem _ ?_
       rw [kid_par hk]; exact up_self s
      ·exact List.mem_cons_of_mem _ (ihl _ hp (by omega) hkl)
     ·have : l = 0 := by omega
      subst this
      simp [up_zero] at hkl; omega
   exact this l hl1 hl3
theorem up_kid {ps : List Int} (h : parOk ps) {s k : Nat} (hk : k ∈ kids ps s) : ∀ l, l < ps.length → k ∈ up ps l → s ∈ up ps l := by
 intro l
 induction l using Nat.strongRecOn with
 | _ l ihl =>
  intro hll hkl
  have hgt := kid_gt h hk
  by_cases h3 : 1 ≤ l
  ·have hp := par_lt h h3 hll
   rw [up_pos h h3 hll] at hkl ⊢
   rcases List.mem_cons.1 hkl with rfl | hkl
   ·refine List.mem_cons_of_mem _ ?_
    rw [kid_par hk]; exact up_self s
   ·exact List.mem_cons_of_mem _ (ihl _ hp (by omega) hkl)
  ·have : l = 0 := by omega
   subst this
   simp [up_zero] at hkl; omega
theorem up_split {ps : List Int} (h : parOk ps) {s : Nat} : ∀ l, l < ps.length → s ∈ up ps l → s = l ∨ ∃ k ∈ kids ps s, k ∈ up ps l := by
 intro l
 induction l using Nat.strongRecOn with
 | _ l ihl =>
  intro hll hsl
  by_cases h3 : 1 ≤ l
  ·have hp := par_lt h h3 hll
   rw [up_pos h h3 hll] at hsl ⊢
   rcases List.mem_cons.1 hsl with rfl | hsl
   ·exact Or.inl rfl
   ·rcases ihl _ hp (by omega) hsl with e | ⟨k, hk, hkl⟩
    ·refine Or.inr ⟨l, ?_, List.mem_cons_self ..⟩
     rw [mem_kids]
     refine ⟨hll, h3, ?_⟩
     have := h l h3 hll
     unfold par at e; omega
    ·exact Or.inr ⟨k, hk, List.mem_cons_of_mem _ hkl⟩
  ·have : l = 0 := by omega
   subst this
   simp [up_zero] at hsl; exact Or.inl hsl
theorem comb_ge (l : List Int) : 0 ≤ comb l ∨ comb l = -1 := by
 cases l with
 | nil => left; simp [comb]
 | cons x r => simp only [comb]; split <;> (try split) <;> omega
theorem lev_ge {ps : List Int} (h : parOk ps) {s : Nat} (hs : s < ps.length) : 0 ≤ lev ps s ∨ lev ps s = -1 := by
 rw [lev_eq h hs]; exact comb_ge _
theorem lev_dep {ps : List Int} (h : parOk ps) : ∀ d s, ps.length - s ≤ d → s < ps.length → 0 ≤ lev ps s → ∀ l, l < ps.length → leafB ps l = true → s ∈ up ps l → (dep ps l : Int) = dep ps s + lev ps s := by
 intro d
 induction d with
 | zero => intro s h1 h2; omega
 | succ d ih =>
  intro s h1 hs h0 l hl hlf hsl
  rw [lev_eq h hs] at h0 ⊢
  cases hks : kids ps s with
  | nil =>
   rw [hks] at h0
   rcases up_split h l hl hsl with rfl | ⟨k, hk, _⟩
   ·simp [comb]
   ·rw [hks] at hk; cases hk
  | cons k0 r =>
   rw [hks] at h0
   rcases up_split h l hl hsl with rfl | ⟨k, hk, hkl⟩
   ·unfold leafB at hlf; rw [hks] at hlf; simp at hlf
   ·have hkn := (mem_kids.1 hk).1
    have hgt := kid_gt h hk
    have hdk : dep ps k = dep ps s + 1 := by rw [dep_pos h (mem_kids.1 hk).2.1 hkn, kid_par hk]
    simp only [List.map_cons, comb] at h0 ⊢
    by_cases hx : lev ps k0 < 0
    ·rw [if_pos hx] at h0; omega
    ·rw [if_neg hx] at h0 ⊢
     by_cases hr : (r.map (lev ps)).all (· == lev ps k0) = true
     ·rw [if_pos hr]
      have hlk : lev ps k = lev ps k0 := by
       rw [hks] at hk
       rcases List.mem_cons.1 hk with rfl | hk
       ·rfl
       ·rw [List.all_eq_true] at hr
        have := hr (lev ps k) (List.mem_map_of_mem hk)
        simpa using this
      have := ih k (by omega) hkn (by omega) l hl hlf hkl
      omega
     ·rw [if_neg hr] at h0; omega
theorem lev_of {ps : List Int} (h : parOk ps) : ∀ d s, ps.length - s ≤ d → s < ps.length → (∃ H : Nat, ∀ l, l < ps.length → leafB ps l = true → s ∈ up ps l → dep ps l = H) → 0 ≤ lev ps s := by
 intro d
 induction d with
 | zero => intro s h1 h2; omega
 | succ d ih =>
  intro s h1 hs ⟨H, hH⟩
  have key : ∀ k ∈ kids ps s, lev ps k = (H : Int) - dep ps s - 1 ∧ 0 ≤ lev ps k := by
   intro k hk
   have hkn := (mem_kids.1 hk).1
   have hgt := kid_gt h hk
   have hdk : dep ps k = dep ps s + 1 := by rw [dep_pos h (mem_kids.1 hk).2.1 hkn, kid_par hk]
   have h0 := ih k (by omega) hkn ⟨H, fun l hl hlf hkl => hH l hl hlf (up_kid h hk l hl hkl)⟩
   obtain ⟨l, hl, hlf, hkl⟩ := leaf_below h (ps.length - k) k (Nat.le_refl _) hkn
   have h2 := lev_dep h _ k (Nat.le_refl _) hkn h0 l hl hlf hkl
   have h3 := hH l hl hlf (up_kid h hk l hl hkl)
   omega
  rw [lev_eq h hs]
  cases hks : kids ps s with
  | nil => simp [comb]
  | cons k0 r =>
   rw [hks] at key
   have h0 := key k0 (by simp)
   simp only [List.map_cons, comb]
   rw [if_neg (by omega), if_pos]
   ·omega
   ·rw [List.all_eq_true]
    intro x hx
    obtain ⟨k, hk, rfl⟩ := List.mem_map.1 hx
    have := key k (by simp [hk])
    simp only [beq_iff_eq]
    omega
theorem zero_up {ps : List Int} (h : parOk ps) : ∀ l, l < ps.length → 0 ∈ up ps l := by
 intro l
 induction l using Nat.strongRecOn with
 | _ l ihl =>
  intro hll
  by_cases h3 : 1 ≤ l
  ·have hp := par_lt h h3 hll
   rw [up_pos h h3 hll]
   exact List.mem_cons_of_mem _ (ihl _ hp (by omega))
  ·have : l = 0 := by omega
   subst this
   simp [up_zero]
theorem last_leaf {ps : List Int} (h : parOk ps) (h1 : 1 ≤ ps.length) : leafB ps (ps.length - 1) = true := by
 unfold leafB
 cases hks : kids ps (ps.length - 1) with
 | nil => rfl
 | cons k r =>
  have hk : k ∈ kids ps (ps.length - 1) := by rw [hks]; simp
  have := kid_gt h hk
  have := (mem_kids.1 hk).1
  omega
def evenB (ps : List Int) : Bool := (List.range ps.length).all fun l => !leafB ps l || dep ps l == dep ps (ps.length - 1)
theorem lev_even {ps : List Int} (h : parOk ps) (h1 : 1 ≤ ps.length) : evenB ps = decide (0 ≤ lev ps 0) := by
 rw [Bool.eq_iff_iff, decide_eq_true_eq]
 unfold evenB
 rw [List.all_eq_true]
 constructor
 ·intro ha
  refine lev_of h _ 0 (Nat.le_refl _) (by omega) ⟨dep ps (ps.length - 1), fun l hl hlf _ => ?_⟩
  have := ha l (List.mem_range.2 hl)
  simpa [hlf] using this
 ·intro h0 l hl
  have hl := List.mem_range.1 hl
  by_cases hlf : leafB ps l = true
  ·have e1 := lev_dep h _ 0 (Nat.le_refl _) (by omega) h0 l hl hlf (zero_up h l hl)
   have e2 := lev_dep h _ 0 (Nat.le_refl _) (by omega) h0 _ (by omega) (last_leaf h h1) (zero_up h (ps.length - 1) (by omega))
   simp [hlf]; omega
  ·simp [hlf]
theorem lev_height {ps : List Int} (h : parOk ps) (h1 : 1 ≤ ps.length) (he : evenB ps = true) {s : Nat} (hs : s < ps.length) : lev ps s = (dep ps (ps.length - 1) : Int) - dep ps s ∧ dep ps s ≤ dep ps (ps.length - 1) := by
 unfold evenB at he
 rw [List.all_eq_true] at he
 have hev : ∀ l, l < ps.length → leafB ps l = true → dep ps l = dep ps (ps.length - 1) := fun l hl hlf => by
  have := he l (List.mem_range.2 hl)
  simpa [hlf] using this
 have h0 := lev_of h _ s (Nat.le_refl _) hs ⟨_, fun l hl hlf _ => hev l hl hlf⟩
 obtain ⟨l, hl, hlf, hsl⟩ := leaf_below h _ s (Nat.le_refl _) hs
 have := lev_dep h _ s (Nat.le_refl _) hs h0 l hl hlf hsl
 have := hev l hl hlf
 omega
end Go.Proofs.YtnphjhbfpoekpaaGreat
namespace Go.Proofs.YtnphjhbfpoekpaaGreat
set_option linter.unusedSimpArgs false
set_option linter.unusedVariables false
set_option linter.unnecessarySimpa false
open Go.RowKit
def ints (ps : List Int) : List Value := ps.map (Value.int .i64)
theorem Rd.int {w : World} {A : Option Addr} {n : Nat} {ps : List Int} (h : Rd w A n 1 (ints ps)) {k : Nat} (hk : k < n) : ∃ g z, A = some ⟨g, 0, none⟩ ∧ ps[k]? = some z ∧ w.cell? ⟨g, k, none⟩ = some (.int .i64 z) := by
 obtain ⟨g, u, hA, hu, hc⟩ := h.at_ hk
 unfold ints at hu
 rw [List.getElem?_map] at hu
 cases hp : ps[k]? with
 | none => rw [hp] at hu; cases hu
 | some z => rw [hp] at hu; simp at hu; exact ⟨g, z, hA, rfl, by rw [hc, hu]⟩
theorem Rd.ilen {w : World} {A : Option Addr} {n : Nat} {ps : List Int} (h : Rd w A n 1 (ints ps)) : ps.length = n := by
 have := h.1; simp [ints] at this; exact this
theorem getD_of {ps : List Int} {k : Nat} {z : Int} (h : ps[k]? = some z) : ps.getD k 0 = z := by simp [List.getD, h]
def leafI (ps : List Int) (s : Int) : Bool := !((List.range ps.length).any fun i => decide (1 ≤ i) && decide (ps.getD i 0 = s))
theorem leafI_eq (ps : List Int) (s : Nat) : leafI ps s = leafB ps s := by
 unfold leafI leafB kids isKid
 rw [Bool.eq_iff_iff, List.isEmpty_iff, List.filter_eq_nil_iff]
 simp
theorem leafI_no {ps : List Int} {s : Int} {k : Nat} (hk : k < ps.length) (h1 : 1 ≤ k) (h : ps.getD k 0 = s) : leafI ps s = false := by
 unfold leafI
 rw [Bool.not_eq_false', List.any_eq_true]
 exact ⟨k, List.mem_range.2 hk, by simp only [Bool.and_eq_true, decide_eq_true_eq]; exact ⟨h1, h⟩⟩
theorem leafI_yes {ps : List Int} {s : Int} {n : Nat} (hn : ps.length = n) (h : ∀ j, 1 ≤ j → j < n → ps.getD j 0 ≠ s) : leafI ps s = true := by
 unfold leafI
 rw [Bool.not_eq_true', List.any_eq_false]
 intro j hj
 have := List.mem_range.1 hj
 simp only [Bool.and_eq_true, decide_eq_true_eq, not_and]
 intro h1
 exact h j h1 (by omega)
set_option maxHeartbeats 1000000 in
theorem isLeaf_any (A : Option Addr) (n c : Nat) (ps : List Int) (s : Int) (w : World) (hn : n ≤ 1048576) (hr : Rd w A n 1 (ints ps)) :
  Calls Tryz.prog 174 #[.slice A n c, .int .i64 s] w fun e w' => e = .returned (.bool (leafI ps s)) ∧ w = w' := by
 have hpl := hr.ilen
 have hm : n ≤ 9223372036854775807 := by omega
 have HN := Lib.hid hn
 have HR := Lib.hid hr
 have HP := Lib.hid hpl
 clear hn hr hpl
 go_enter Tryz.func174, Tryz.ntmps174
 go_wp2_with fail
 go_loop [5] (fun i => ∃ k : Nat, 1 ≤ k ∧ (k ≤ n ∨ k = 1) ∧ i = .int .i64 k ∧ ∀ j, 1 ≤ j → j < k → ps.getD j 0 ≠ s) (fun i => n - (intOf i).toNat)
 case atStart => exact ⟨1, Nat.le_refl _, Or.inr rfl, rfl, fun j h1 h2 => by omega⟩
 case round =>
  obtain ⟨k, hk1, hk, rfl, hall⟩ := hrel
  have HA := Lib.hid hall
  clear hall
  by_cases hlt : k < n
  ·have hlt' : (k : Int) < n := by omega
   obtain ⟨g, z, rfl, hz, d0⟩ := HR.out.int hlt
   have HZ := Lib.hid (getD_of hz)
   clear hz
   by_cases he : z = s
   ·have he' : (z == s) = true := by simp [he]
    have HE := Lib.hid he
    clear he
    go_wp2
    go_ret
    exact ⟨zAj (leafI_no (k := k) (by rw [HP.out]; exact hlt) hk1 (by rw [HZ.out, HE.out])).symm, rfl⟩
   ·have he' : (z == s) = false := by simp [he]
    go_wp2
    go_round
    case rel =>
     refine ⟨k + 1, by omega, by omega, by go_num, ?_⟩
     intro j h1 h2
     rcases Nat.lt_or_ge j k with h | h
     ·exact HA.out j h1 h
     ·have : j = k := by omega
      rw [this, HZ.out]; exact he
    case measure => simp [intOf]; omega
  ·have hlt' : ¬ (k : Int) < n := by omega
   go_wp2
   go_ret
   exact ⟨zAj (leafI_yes HP.out (fun j h1 h2 => HA.out j h1 (by omega))).symm, rfl⟩
set_option maxHeartbeats 1000000 in
theorem depth_any (A : Option Addr) (n c : Nat) (ps : List Int) (s : Nat) (w : World) (hn : n ≤ 1048576) (hr : Rd w A n 1 (ints ps)) (hok : parOk ps) (hs : s < n) :
  Calls Tryz.prog 166 #[.slice A n c, .int .i64 s] w fun e w' => e = .returned (.int .i64 (dep ps s)) ∧ w = w' := by
 have hpl := hr.ilen
 have hm : n ≤ 9223372036854775807 := by omega
 have HN := Lib.hid hn
 have HR := Lib.hid hr
 have HP := Lib.hid hpl
 clear hn hr hpl
 have HO := Lib.hid hok
 clear hok
 go_enter Tryz.func166, Tryz.ntmps166
 go_wp2_with fail
 go_loop [1, 5] (fun v m => ∃ k j : Nat, k < n ∧ k ≤ s ∧ j + k ≤ s ∧ v = .int .i64 k ∧ m = .int .i64 j ∧ dep ps s = j + dep ps k) (fun v _ => (intOf v).toNat)
 case atStart => exact ⟨s, 0, hs, Nat.le_refl _, by omega, rfl, rfl, by omega⟩
 case round =>
  obtain ⟨k, j, hk, hks, hjk, rfl, rfl, hd⟩ := hrel
  have HD := Lib.hid hd
  clear hd
  by_cases h0 : 0 < k
  ·have h0' : (0 : Int) < k := by omega
   have hkn : (k : Int) < n := by omega
   obtain ⟨g, z, rfl, hz, d0⟩ := HR.out.int hk
   have hz2 := getD_of hz
   have hpo := HO.out k h0 (by rw [HP.out]; exact hk)
   rw [hz2] at hpo
   obtain ⟨p, rfl⟩ : ∃ p : Nat, z = p := ⟨z.toNat, by omega⟩
   have hdp : dep ps k = dep ps p + 1 := by
    have := dep_pos HO.out h0 (by rw [HP.out]; exact hk)
    unfold par at this
    rw [hz2] at this
    simpa using this
   have HZ := Lib.hid hdp
   have hpk : p < k := by omega
   clear hz hz2 hdp hpo
   go_wp2
   go_round
   case rel => exact ⟨p, j + 1, by omega, by omega, by omega, rfl, by go_num, by rw [HD.out, HZ.out]; omega⟩
   case measure => simp [intOf]; omega
  ·have hk0 : k = 0 := by omega
   subst hk0
   go_wp2
   go_ret
   exact ⟨ret_int (by rw [HD.out, dep_zero]; simp), rfl⟩
set_option maxHeartbeats 1000000 in
theorem height_any (A : Option Addr) (n c : Nat) (ps : List Int) (w : World) (hn : n ≤ 1048576) (h1 : 1 ≤ n) (hr : Rd w A n 1 (ints ps)) (hok : parOk ps) :
  Calls Tryz.prog 165 #[.slice A n c] w fun e w' => e = .returned (.int .i64 (dep ps (n - 1))) ∧ w = w' := by
 have hw : (n : Int) - 1 = ((n - 1 : Nat) : Int) := by omega
 have hw2 : IntKind.i64.wrap ((n : Int) - 1) = ((n - 1 : Nat) : Int) := by rw [hw]; exact IntWalk.i64_in _ (by omega)
 have HR := Lib.hid hr
 have HO := Lib.hid hok
 have HW := Lib.hid hw
 have hm : n ≤ 9223372036854775807 := by omega
 have HN := Lib.hid hn
 clear hr hok hw hn
 go_enter Tryz.func165, Tryz.ntmps165
 go_wp2_with fail
 (try rw [HW.out])
 refine (depth_any A n c ps (n - 1) _ HN.out HR.out HO.out (by omega)).mono ?_
 rintro e w1 ⟨rfl, rfl⟩
 go_wp2
 go_ret
 exact ⟨rfl, rfl⟩
def nvals (l : List Nat) : List Value := l.map fun (i : Nat) => Value.int .i64 (i : Int)
theorem infoI : (Tryz.prog.info? 3).map (fun i => (i.zero, i.size, i.bytes)) = some (some (.int .i64 0), 1, 8) := by kernel_rfl
def kidsN (ps : List Int) (s k : Nat) : List Nat := (List.range k).filter (isKid ps s)
theorem kidsN_yes {ps : List Int} {s k : Nat} (h1 : 1 ≤ k) (h : ps.getD k 0 = s) : kidsN ps s (k + 1) = kidsN ps s k ++ [k] := by
 unfold kidsN
 rw [List.range_succ, List.filter_append]
 have : isKid ps s k = true := by unfold isKid; simp only [Bool.and_eq_true, decide_eq_true_eq]; exact ⟨h1, h⟩
 simp [List.filter_cons, this]
theorem kidsN_no {ps : List Int} {s k : Nat} (h : ps.getD k 0 ≠ s) : kidsN ps s (k + 1) = kidsN ps s k := by
 unfold kidsN
 rw [List.range_succ, List.filter_append]
 have : isKid ps s k = false := by unfold isKid; simp only [Bool.and_eq_false_iff, decide_eq_false_iff_not]; exact Or.inr h
 simp [List.filter_cons, this]
theorem kidsN_len (ps : List Int) (s k : Nat) : (kidsN ps s k).length ≤ k := by
 have := List.length_filter_le (isKid ps s) (List.range k)
 simpa [kidsN] using this
theorem kidsN_one (ps : List Int) (s : Nat) : kidsN ps s 1 = [] := by simp [kidsN, isKid, List.range_succ]
theorem kidsN_all (ps : List Int) (s n : Nat) (h : ps.length = n) : kidsN ps s n = kids ps s := by rw [← h]; rfl
set_option maxHeartbeats 1000000 in
theorem kids_any (A B : Option Addr) (n c m d : Nat) (ps : List Int) (s : Nat) (w : World) (hn : n ≤ 1048576) (hr : Rd w A n 1 (ints ps)) (hl : ∀ g, A = some ⟨g, 0, none⟩ → g < w.heap.size) :
  Calls Tryz.prog 159 #[.agg #[.slice A n c, .slice B m d], .int .i64 s] w fun e w' => ∃ v, e = .returned v ∧ w'.ownsRow w.heap.size 3 1 v (kids ps s).length (nvals (kids ps s)) ∧ Below w.heap.size w w' := by
 obtain ⟨i0, hi, hz0, hz1, hz2⟩ := info_parts infoI
 have hpl := hr.ilen
 have hm : n ≤ 9223372036854775807 := by omega
 have HN := Lib.hid hn
 have HR := Lib.hid hr
 have HP := Lib.hid hpl
 have HL := Lib.hid hl
 clear hn hr hpl hl
 go_enter Tryz.func159, Tryz.ntmps159
 go_wp2_with fail
 go_loopw [5, 6] (fun v i wr => ∃ k : Nat, 1 ≤ k ∧ (k ≤ n ∨ k = 1) ∧ i = .int .i64 k ∧ wr.ownsRow (w.heap.size + 1) 3 1 v (kidsN ps s k).length (nvals (kidsN ps s k)) ∧ Below w.heap.size w wr ∧ w.heap.size < wr.heap.size ∧ wr.cell? ⟨w.heap.size, 0, none⟩ = some (.slice A n c)) (fun _ i _ => n - (intOf i).toNat)
 case atStart => exact ⟨1, Nat.le_refl _, Or.inr rfl, rfl, by rw [kidsN_one]; simpa [nvals] using own_empty (w.alloc _) 3, zAc (zAa _ _) (zAa _ _), by simp; omega, by simp [go_sem, World.cell?_alloc_some]⟩
 case round =>
  obtain ⟨k, hk1, hk, rfl, hown, hb, hsz, hbox⟩ := hrel
  have hl9 := kidsN_len ps s k
  have HL9 := Lib.hid hl9
  clear hl9
  by_cases hlt : k < n
  ·have hlt' : (k : Int) < n := by omega
   obtain ⟨g, z, rfl, hz, d0⟩ := HR.out.int hlt
   have D0 := (hb.cell (p := ⟨g, k, none⟩) (HL.out g rfl)).trans d0
   have HZ := Lib.hid (getD_of hz)
   have HB := Lib.hid hb
   clear hz d0 hb
   by_cases he : z = s
   ·have he' : (z == (s : Int)) = true := by simp [he]
    have HE := Lib.hid (kidsN_yes hk1 (HZ.out.trans he))
    clear he
    go_wp2_with (at_builtin; refine wpList_append_own _ rfl _ _ 23 rfl (w.heap.size + 1) 3 i0 (.int .i64 0) 1 8 Tryz.underlying23 hi hz0 hz1 hz2 rfl (by decide) _ _ _ rfl (hown.alloc _) ⟨wr.heap.size, 0, none⟩ 1 1 [.int .i64 (k : Int)] rfl rfl ?c1 ?c2 ?c3 ?c4 ?c5 ?_)
    case c1 => intro j y hy; match j, hy with | 0, hy => (simp at hy; subst hy; simp [Addr.add])
    case c2 => simp [Value.oneCell']
    case c3 => unfold maxLen; have := HN.out; have := HL9.out; omega
    case c4 => have := HN.out; have := HL9.out; omega
    case c5 => simp; omega
    intro v' w1 hown1 hg1 _
    have hgb := hg1.block w.heap.size (by simp; omega) (fun e => by have := own_ge hown _ e.symm; omega)
    go_wp2
    go_roundw
    case rel =>
     refine ⟨k + 1, by omega, by omega, by go_num, ?_, ?_, ?_, ?_⟩
     ·rw [HE.out]; simpa [nvals] using hown1
     ·exact Below.grown (HB.out.alloc HB.out.size _) hg1 (by simp; have := HB.out.size; omega) (fun k hk => by have := own_ge hown k hk; omega)
     ·have := hg1.size; simp at this; omega
     ·rw [World.cell?_of_block hgb]; simp [hbox, World.cell?_alloc_some]
    case measure => simp [intOf]; omega
   ·have he' : (z == (s : Int)) = false := by simp [he]
    have HE := Lib.hid (kidsN_no (k := k) (ps := ps) (s := s) (by rw [HZ.out]; exact he))
    clear he
    go_wp2
    go_roundw
    case rel => exact ⟨k + 1, by omega, by omega, by go_num, by rw [HE.out]; exact hown, HB.out, hsz, hbox⟩
    case measure => simp [intOf]; omega
  ·have hlt' : ¬ (k : Int) < n := by omega
   have hk9 : kidsN ps s k = kids ps s := by
    rcases hk with h | h
    ·have : k = n := by omega
     rw [this]; exact kidsN_all ps s n HP.out
    ·subst h
     rw [kidsN_one]
     unfold kids
     rw [HP.out]
     rcases Nat.lt_or_ge 0 n with h | h
     ·have : n = 1 := by omega
      rw [this]; exact (kidsN_one ps s).symm
     ·have : n = 0 := by omega
      rw [this]; rfl
   rw [hk9] at hown
   have HO := Lib.hid hown
   have HB := Lib.hid hb
   clear hk9 hown hb
   go_wp2
   go_ret
   exact ⟨_, rfl, zAn HO.out (by omega), HB.out⟩
theorem ints_snoc (l : List Int) (x : Int) : ints (l ++ [x]) = ints l ++ [.int .i64 x] := by simp [ints]
theorem take_snoc' {α : Type} {l : List α} {k : Nat} {x : α} (h : l[k]? = some x) : l.take (k + 1) = l.take k ++ [x] := by rw [List.take_add_one, h]; rfl
theorem lev_le {ps : List Int} (h : parOk ps) {s : Nat} (hs : s < ps.length) : -1 ≤ lev ps s ∧ lev ps s ≤ ps.length := by
 rcases lev_ge h hs with h0 | h0
 ·obtain ⟨l, hl, hlf, hsl⟩ := leaf_below h _ s (Nat.le_refl _) hs
  have h1 := lev_dep h _ s (Nat.le_refl _) hs h0 l hl hlf hsl
  have h2 := dep_le h l hl
  omega
 ·omega
def stL (L : List Int) (k : Nat) : Int := if k = 0 then -1 else L.getD 0 0
def goodL (L : List Int) (k : Nat) : Prop := ∀ j, j < k → L.getD j 0 = L.getD 0 0 ∧ 0 ≤ L.getD 0 0
theorem comb_neg {L : List Int} {k : Nat} (hk : k < L.length) (hg : goodL L k) (h : L.getD k 0 < 0 ∨ (0 < k ∧ L.getD k 0 ≠ L.getD 0 0)) : comb L = -1 := by
 cases L with
 | nil => simp at hk
 | cons x r =>
  simp only [comb]
  split
  ·rfl
  ·rename_i hx
   rw [if_neg]
   intro hall
   rw [List.all_eq_true] at hall
   have key : (x :: r).getD k 0 = x := by
    cases k with
    | zero => simp
    | succ k =>
     have hk' : k < r.length := by simpa using hk
     have := hall r[k] (List.getElem_mem hk')
     simp only [beq_iff_eq] at this
     simp [hk', this]
   rcases h with h | ⟨_, h⟩
   ·rw [key] at h; omega
   ·rw [key] at h; exact h (by simp)
theorem comb_all {L : List Int} (hg : goodL L L.length) : comb L = stL L L.length + 1 := by
 cases L with
 | nil => simp [comb, stL]
 | cons x r =>
  have h0 := hg 0 (by simp)
  simp only [comb]
  have hx : 0 ≤ x := by simpa using h0.2
  rw [if_neg (by omega), if_pos]
  ·simp [stL]
  ·rw [List.all_eq_true]
   intro y hy
   obtain ⟨j, hj, rfl⟩ := List.getElem_of_mem hy
   have := (hg (j + 1) (by simpa using hj)).1
   simp [hj] at this
   simp [this]
theorem goodL_succ {L : List Int} {k : Nat} (hg : goodL L k) (h0 : 0 ≤ L.getD k 0) (h : k = 0 ∨ L.getD k 0 = L.getD 0 0) : goodL L (k + 1) := by
 intro j hj
 rcases Nat.lt_or_ge j k with h1 | h1
 ·exact hg j h1
 ·have : j = k := by omega
  subst this
  rcases h with rfl | h
  ·exact ⟨rfl, h0⟩
  ·exact ⟨h, by rw [← h]; exact h0⟩
theorem nvals_get {l : List Nat} {k : Nat} {x : Value} (h : (nvals l)[k]? = some x) : ∃ a, l[k]? = some a ∧ x = .int .i64 (a : Int) := by
 unfold nvals at h
 rw [List.getElem?_map] at h
 cases hl : l[k]? with
 | none => rw [hl] at h; cases h
 | some a => rw [hl] at h; simp at h; exact ⟨a, rfl, h.symm⟩
set_option maxHeartbeats 4000000 in
theorem slevel_any : ∀ (d0 : Nat) (A B : Option Addr) (n c m d : Nat) (ps : List Int) (s : Nat) (w : World), n - s ≤ d0 → n ≤ 1048576 → Rd w A n 1 (ints ps) → (∀ g, A = some ⟨g, 0, none⟩ → g < w.heap.size) → parOk ps → s < n →
  Calls Tryz.prog 85 #[.agg #[.slice A n c, .slice B m d], .int .i64 s] w fun e w' => e = .returned (.int .i64 (lev ps s)) ∧ Below w.heap.size w w' := by
 intro d0
 induction d0 with
 | zero => intro A B n c m d ps s w h1 _ _ _ _ h2; omega
 | succ d0 ih =>
  intro A B n c m d ps s w hd hn hr hl hok hs
  have hpl := hr.ilen
  have IH := Lib.hid ih
  have HN := Lib.hid hn
  have HR := Lib.hid hr
  have HP := Lib.hid hpl
  have HL := Lib.hid hl
  have HO := Lib.hid hok
  clear ih hn hr hpl hl hok
  go_enter Tryz.func85, Tryz.ntmps85
  go_wp2_with fail
  refine (kids_any A B n c m d ps s _ HN.out (HR.out.below HL.out (zAa _ _)) (zAi HL.out (zAa _ _))).mono ?_
  rintro e w1 ⟨v1, rfl, own1, hb1⟩
  obtain ⟨A1, c1, rfl, rd1⟩ := zAt own1
  have hl1 := own_blk own1
  have hz1 : w.heap.size < w1.heap.size := by have := hb1.size; simp at this; omega
  have hkl : (kids ps s).length ≤ n := by rw [← kidsN_all ps s n HP.out]; exact kidsN_len ps s n
  generalize hK : (kids ps s).length = K at *
  have HK := Lib.hid hK
  have RD1 := Lib.hid rd1
  have HL1 := Lib.hid hl1
  have B1 := Lib.hid hb1
  have hx0 := (hb1.cell (p := ⟨w.heap.size, 0, none⟩) (by simp)).trans (show _ = some (.slice A n c) by simp [go_sem])
  have hx1 := (hb1.cell (p := ⟨w.heap.size, 1, none⟩) (by simp)).trans (show _ = some (.slice B m d) by simp [go_sem])
  have hK9 : K ≤ 9223372036854775807 := by have := HN.out; omega
  clear hK rd1 hl1 own1
  go_wp2_with fail
  go_loopw [5, 13] (fun v i wr => ∃ k : Nat, k ≤ K ∧ i = .int .i64 k ∧ v = .int .i64 (stL ((kids ps s).map (lev ps)) k) ∧ goodL ((kids ps s).map (lev ps)) k ∧ Below w1.heap.size w1 wr) (fun _ i _ => K - (intOf i).toNat)
  case atStart => exact ⟨0, Nat.zero_le _, rfl, rfl, fun j hj => absurd hj (by omega), Below.refl _ _⟩
  case round =>
   obtain ⟨k, hk, rfl, rfl, hg, hb⟩ := hrel
   have HG := Lib.hid hg
   have HB := Lib.hid hb
   have bx0 := (hb.cell (p := ⟨w.heap.size, 0, none⟩) (by omega)).trans hx0
   have bx1 := (hb.cell (p := ⟨w.heap.size, 1, none⟩) (by omega)).trans hx1
   clear hg hb hb1 hx0 hx1
   by_cases hlt : k < K
   ·have hlt' : (k : Int) < K := by omega
    obtain ⟨g, u, rfl, hu, du⟩ := RD1.out.at_ hlt
    obtain ⟨kd, hkd, rfl⟩ := nvals_get hu
    have D0 := (HB.out.cell (p := ⟨g, k, none⟩) (HL1.out g rfl)).trans du
    have hmem : kd ∈ kids ps s := List.mem_of_getElem? hkd
    have hgt := kid_gt HO.out hmem
    have hkn : kd < n := by have := (mem_kids.1 hmem).1; have := HP.out; omega
    have hlv : ((kids ps s).map (lev ps)).getD k 0 = lev ps kd := by simp [List.getD, hkd]
    have hkl2 : k < ((kids ps s).map (lev ps)).length := by rw [List.length_map, HK.out]; exact hlt
    have hLE := lev_le HO.out (show kd < ps.length by rw [HP.out]; exact hkn)
    have HLV := Lib.hid hlv
    have BB : Below w.heap.size w wr := zAc (zAc (zAa _ _) B1.out) HB.out
    have HBB := Lib.hid BB
    clear hu du hkd hmem hlv BB
    go_wp2_with fail
    refine (IH.out A B n c m d ps kd _ (by omega) HN.out (HR.out.below HL.out HBB.out) (zAi HL.out HBB.out) HO.out hkn).mono ?_
    rintro e w2 ⟨rfl, hb2⟩
    have HB2 := Lib.hid hb2
    clear hb2
    by_cases hneg : lev ps kd < 0
    ·go_wp2
     go_ret
     exact ⟨ret_int (by rw [lev_eq HO.out (by rw [HP.out]; exact hs)]; exact (comb_neg hkl2 HG.out (Or.inl (by rw [HLV.out]; exact hneg))).symm), zAc HBB.out HB2.out⟩
    ·by_cases hk0 : k = 0
     ·have hk0' : ¬ ((0 : Int) < k) := by omega
      have HK0 := Lib.hid hk0
      clear hk0
      go_wp2
      go_roundw
      case rel => exact ⟨k + 1, by omega, by go_num, by unfold stL; rw [if_neg (by omega), ← HLV.out, HK0.out], goodL_succ HG.out (by rw [HLV.out]; omega) (Or.inl HK0.out), zAc HB.out HB2.out⟩
      case measure => simp [intOf]; omega
     ·have hk0' : (0 : Int) < k := by omega
      have hst : stL ((kids ps s).map (lev ps)) k = ((kids ps s).map (lev ps)).getD 0 0 := by unfold stL; rw [if_neg hk0]
      generalize stL ((kids ps s).map (lev ps)) k = st at *
      have HST := Lib.hid hst
      clear hst
      by_cases hne : lev ps kd = st
      ·have hne' : (lev ps kd != st) = false := by simp [hne]
       have hne2 : (lev ps kd == st) = true := by simp [hne]
       have HNE := Lib.hid hne
       clear hne
       go_wp2
       go_roundw
       case rel => exact ⟨k + 1, by omega, by go_num, by unfold stL; rw [if_neg (by omega), ← HST.out, HNE.out], goodL_succ HG.out (by rw [HLV.out]; omega) (Or.inr (by rw [HLV.out, HNE.out, HST.out])), zAc HB.out HB2.out⟩
       case measure => simp [intOf]; omega
      ·have hne' : (lev ps kd != st) = true := by simp [hne]
       have hne2 : (lev ps kd == st) = false := by simp [hne]
       go_wp2
       go_ret
       exact ⟨ret_int (by rw [lev_eq HO.out (by rw [HP.out]; exact hs)]; exact (comb_neg hkl2 HG.out (Or.inr ⟨by omega, by rw [HLV.out, ← HST.out]; exact hne⟩)).symm), zAc HBB.out HB2.out⟩
   ·have hk9 : k = K := by omega
    subst hk9
    have hfin : lev ps s = stL ((kids ps s).map (lev ps)) k + 1 := by
     rw [lev_eq HO.out (by rw [HP.out]; exact hs)]
     have := comb_all (L := (kids ps s).map (lev ps)) (by rw [List.length_map, HK.out]; exact HG.out)
     rw [List.length_map, HK.out] at this
     exact this
    have hLE := lev_le HO.out (show s < ps.length by rw [HP.out]; exact hs)
    have hn2 : (ps.length : Int) ≤ 1048576 := by have := HN.out; have := HP.out; omega
    generalize stL ((kids ps s).map (lev ps)) k = st at *
    have HF := Lib.hid hfin
    have hst1 : -9223372036854775808 ≤ st + 1 := by omega
    have hst2 : st + 1 ≤ 9223372036854775807 := by omega
    clear hfin
    go_wp2
    go_ret
    exact ⟨ret_int HF.out.symm, zAc (zAc (zAa _ _) B1.out) HB.out⟩
def parB (ps : List Int) : Bool := (List.range ps.length).all fun s => decide (s = 0) || (decide (0 ≤ ps.getD s 0) && decide (ps.getD s 0 < s))
theorem parB_ok {ps : List Int} : parB ps = true ↔ parOk ps := by
 unfold parB parOk
 rw [List.all_eq_true]
 constructor
 ·intro h s h1 hs
  have := h s (List.mem_range.2 hs)
  simp only [Bool.or_eq_true, decide_eq_true_eq, Bool.and_eq_true] at this
  exact this.resolve_left (by omega)
 ·intro h s hs
  have hs := List.mem_range.1 hs
  simp only [Bool.or_eq_true, decide_eq_true_eq, Bool.and_eq_true]
  by_cases h0 : s = 0
  ·exact Or.inl h0
  ·exact Or.inr (h s (by omega) hs)
def nodeOk (ps : List Int) (q : Q) : Bool := decide (0 ≤ q.t) && decide (q.t < ps.length) && leafI ps q.t && vecOkB q.a q.b q.c
def topoOkB (ps : List Int) (ns : List Q) : Bool := decide (1 ≤ ps.length) && decide (ps.length ≤ 24) && decide (ps.getD 0 0 = 0) && decide (ns.length ≤ 24) && parB ps && evenB ps && ns.all (nodeOk ps)
theorem topo_len {ps : List Int} {ns : List Q} {n : Nat} (hn : ps.length = n) (h : ¬ (1 ≤ n ∧ n ≤ 24)) : topoOkB ps ns = false := by
 unfold topoOkB
 by_cases h1 : 1 ≤ n
 ·have h2 : ¬ n ≤ 24 := fun h2 => h ⟨h1, h2⟩
  simp [hn, h2]
 ·simp [hn, h1]
theorem topo_root {ps : List Int} {ns : List Q} (h : ps.getD 0 0 ≠ 0) : topoOkB ps ns = false := by
 unfold topoOkB
 simp only [h, decide_false, Bool.and_false, Bool.false_and]
theorem topo_nodes {ps : List Int} {ns : List Q} {m : Nat} (hm : ns.length = m) (h : ¬ m ≤ 24) : topoOkB ps ns = false := by
 unfold topoOkB
 simp only [hm, h, decide_false, Bool.and_false, Bool.false_and]
theorem topo_par {ps : List Int} {ns : List Q} {k : Nat} (hk : k < ps.length) (h1 : 1 ≤ k) (h : ¬ (0 ≤ ps.getD k 0 ∧ ps.getD k 0 < k)) : topoOkB ps ns = false := by
 have : parB ps = false := by
  cases hp : parB ps with
  | false => rfl
  | true => exact absurd (parB_ok.1 hp k h1 hk) h
 unfold topoOkB
 simp only [this, Bool.and_false, Bool.false_and]
theorem even_at {ps : List Int} (he : evenB ps = true) {l : Nat} (hl : l < ps.length) (hlf : leafB ps l = true) : dep ps l = dep ps (ps.length - 1) := by
 unfold evenB at he
 rw [List.all_eq_true] at he
 have := he l (List.mem_range.2 hl)
 simpa [hlf] using this
theorem topo_uneven {ps : List Int} {ns : List Q} {a b : Nat} (ha : a < ps.length) (hb : b < ps.length) (la : leafB ps a = true) (lb : leafB ps b = true) (h : dep ps a ≠ dep ps b) : topoOkB ps ns = false := by
 have : evenB ps = false := by
  cases he : evenB ps with
  | false => rfl
  | true => exact absurd ((even_at he ha la).trans (even_at he hb lb).symm) h
 unfold topoOkB
 simp only [this, Bool.and_false, Bool.false_and]
theorem topo_node {ps : List Int} {ns : List Q} {q : Q} (hq : q ∈ ns) (h : nodeOk ps q = false) : topoOkB ps ns = false := by
 have : ns.all (nodeOk ps) = false := by
  rw [List.all_eq_false]; exact ⟨q, hq, by simp [h]⟩
 unfold topoOkB
 simp only [this, Bool.and_false]
theorem topo_all {ps : List Int} {ns : List Q} {n m : Nat} (hn : ps.length = n) (hm : ns.length = m) (h1 : 1 ≤ n) (h2 : n ≤ 24) (h3 : ps.getD 0 0 = 0) (h4 : m ≤ 24) (hp : parOk ps) (hk : ∀ k q, k < m → ns[k]? = some q → nodeOk ps q = true) : topoOkB ps ns = evenB ps := by
 have e1 : ns.all (nodeOk ps) = true := by
  rw [List.all_eq_true]
  intro q hq
  obtain ⟨k, hk', rfl⟩ := List.getElem_of_mem hq
  exact hk k _ (by omega) (zgh hk')
 unfold topoOkB
 have e2 := parB_ok.2 hp
 have d1 : decide (1 ≤ ps.length) = true := by simp; omega
 have d2 : decide (ps.length ≤ 24) = true := by simp; omega
 have d3 : decide (ps.getD 0 0 = 0) = true := by rw [h3]; rfl
 have d4 : decide (ns.length ≤ 24) = true := by simp; omega
 rw [e1, e2, d1, d2, d3, d4]
 simp
theorem topo_parts {ps : List Int} {ns : List Q} (h : topoOkB ps ns = true) : 1 ≤ ps.length ∧ ps.length ≤ 24 ∧ ps.getD 0 0 = 0 ∧ ns.length ≤ 24 ∧ parOk ps ∧ evenB ps = true ∧ ∀ q ∈ ns, nodeOk ps q = true := by
 unfold topoOkB at h
 simp only [Bool.and_eq_true, decide_eq_true_eq, List.all_eq_true] at h
 obtain ⟨⟨⟨⟨⟨⟨h1, h2⟩, h3⟩, h4⟩, h5⟩, h6⟩, h7⟩ := h
 exact ⟨h1, h2, h3, h4, parB_ok.1 h5, h6, h7⟩
def deepOk (ps : List Int) (k : Nat) (D : Int) : Prop := (D = -1 ∧ ∀ j, j < k → leafB ps j = false) ∨ ∃ l, l < k ∧ leafB ps l = true ∧ D = dep ps l ∧ ∀ j, j < k → leafB ps j = true → dep ps j = dep ps l
theorem deepOk_no {ps : List Int} {k : Nat} {D : Int} (h : deepOk ps k D) (hl : leafB ps k = false) : deepOk ps (k + 1) D := by
 rcases h with ⟨rfl, h⟩ | ⟨l, hlk, hll, rfl, h⟩
 ·exact Or.inl ⟨rfl, fun j hj => by
   rcases Nat.lt_or_ge j k with h1 | h1
   ·exact h j h1
   ·have : j = k := by omega
    rw [this]; exact hl⟩
 ·exact Or.inr ⟨l, by omega, hll, rfl, fun j hj hjl => by
   rcases Nat.lt_or_ge j k with h1 | h1
   ·exact h j h1 hjl
   ·have : j = k := by omega
    rw [this, hl] at hjl; cases hjl⟩
theorem deepOk_yes {ps : List Int} {k : Nat} {D : Int} (h : deepOk ps k D) (hl : leafB ps k = true) (hd : D < 0 ∨ (dep ps k : Int) = D) : deepOk ps (k + 1) (dep ps k) := by
 refine Or.inr ⟨k, by omega, hl, rfl, fun j hj hjl => ?_⟩
 rcases Nat.lt_or_ge j k with h1 | h1
 ·rcases h with ⟨rfl, h⟩ | ⟨l, hlk, hll, rfl, h⟩
  ·rw [h j h1] at hjl; cases hjl
  ·have := h j h1 hjl
   have := hd.resolve_left (by omega)
   omega
 ·have : j = k := by omega
  rw [this]
theorem deepOk_even {ps : List Int} {n : Nat} {D : Int} (hn : ps.length = n) (h : deepOk ps n D) (h1 : 1 ≤ n) (hp : parOk ps) : evenB ps = true := by
 have hll := last_leaf hp (by omega)
 rcases h with ⟨_, h⟩ | ⟨l, hlk, hl, _, h⟩
 ·rw [h (ps.length - 1) (by omega)] at hll; cases hll
 ·unfold evenB
  rw [List.all_eq_true]
  intro j hj
  have hj := List.mem_range.1 hj
  by_cases hlf : leafB ps j = true
  ·have a1 := h j (by omega) hlf
   have a2 := h (ps.length - 1) (by omega) hll
   simp [hlf, a1, a2]
  ·simp [hlf]
set_option maxHeartbeats 4000000 in
theorem topoOk_head (A B : Option Addr) (n c m d : Nat) (ps : List Int) (ns : List Q) (w : World) (hn : n ≤ 1048576) (hm : m ≤ 1048576) (hr : Rd w A n 1 (ints ps)) (hq : Rd w B m 4 (flat ns)) (hl : ∀ g, A = some ⟨g, 0, none⟩ → g < w.heap.size) (hl2 : ∀ g, B = some ⟨g, 0, none⟩ → g < w.heap.size) (hb : ¬ (1 ≤ n ∧ n ≤ 24) ∨ ps.getD 0 0 ≠ 0 ∨ ¬ m ≤ 24) :
  Calls Tryz.prog 100 #[.agg #[.slice A n c, .slice B m d]] w fun e w' => e = .returned (.bool (topoOkB ps ns)) ∧ Below w.heap.size w w' := by
 have hpl := hr.ilen
 have hql : ns.length = m := by have := hq.1; rw [flat_len] at this; omega
 have hm1 : n ≤ 9223372036854775807 := by omega
 have hm2 : m ≤ 9223372036854775807 := by omega
 have HN := Lib.hid hn
 have HM := Lib.hid hm
 have HR := Lib.hid hr
 have HQ := Lib.hid hq
 have HP := Lib.hid hpl
 have HQL := Lib.hid hql
 have HL := Lib.hid hl
 have HL2 := Lib.hid hl2
 clear hn hm hr hq hpl hql hl hl2
 by_cases h1 : 1 ≤ n ∧ n ≤ 24
 ·have hin : inB n 1 24 = true := by simp [inB]; omega
  obtain ⟨g, z, rfl, hz, c0⟩ := HR.out.int (show 0 < n by omega)
  have hg := HL.out g rfl
  have hni : (0 : Int) < (n : Int) := by omega
  by_cases h2 : z = 0
  ·have hm24 : (24 : Int) < (m : Int) := by
    have := getD_of hz
    rcases hb with h | h | h
    ·exact absurd h1 h
    ·rw [this] at h; exact absurd h2 h
    ·omega
   have hF := topo_nodes (ps := ps) HQL.out (show ¬ m ≤ 24 by omega)
   have HF := Lib.hid hF
   rw [h2] at c0
   clear hF hb h1 h2 hz
   go_enter Tryz.func100, Tryz.ntmps100
   go_wp2_with (go_at_call 54; refine (within_any _ _ _ _).mono ?_; rintro e w' ⟨rfl, rfl⟩; rw [hin])
   go_ret
   exact ⟨zAj HF.out.symm, zAa _ _⟩
  ·have hz' : (z != 0) = true := by simp [h2]
   have hz2 : (z == 0) = false := by simp [h2]
   have hF := topo_root (ns := ns) (show ps.getD 0 0 ≠ 0 by rw [getD_of hz]; exact h2)
   have HF := Lib.hid hF
   clear hF hb h1 h2 hz
   go_enter Tryz.func100, Tryz.ntmps100
   go_wp2_with (go_at_call 54; refine (within_any _ _ _ _).mono ?_; rintro e w' ⟨rfl, rfl⟩; rw [hin])
   go_ret
   exact ⟨zAj HF.out.symm, zAa _ _⟩
 ·have hin : inB n 1 24 = false := by
   simp only [inB, Bool.and_eq_false_iff, decide_eq_false_iff_not]; omega
  have HF := Lib.hid (topo_len (ns := ns) HP.out h1)
  clear hb h1
  go_enter Tryz.func100, Tryz.ntmps100
  go_wp2_with (go_at_call 54; refine (within_any _ _ _ _).mono ?_; rintro e w' ⟨rfl, rfl⟩; rw [hin])
  go_ret
  exact ⟨zAj HF.out.symm, zAa _ _⟩
set_option maxHeartbeats 8000000 in
theorem topoOk_main (A B : Option Addr) (n c m d : Nat) (ps : List Int) (ns : List Q) (w : World) (hn : n ≤ 1048576) (hm : m ≤ 1048576) (hr : Rd w A n 1 (ints ps)) (hq : Rd w B m 4 (flat ns)) (hl : ∀ g, A = some ⟨g, 0, none⟩ → g < w.heap.size) (hl2 : ∀ g, B = some ⟨g, 0, none⟩ → g < w.heap.size) (h1 : 1 ≤ n) (h24 : n ≤ 24) (h0 : ps.getD 0 0 = 0) (hm24 : m ≤ 24) :
  Calls Tryz.prog 100 #[.agg #[.slice A n c, .slice B m d]] w fun e w' => e = .returned (.bool (topoOkB ps ns)) ∧ Below w.heap.size w w' := by
 have hpl := hr.ilen
 have hql : ns.length = m := by have := hq.1; rw [flat_len] at this; omega
 have hm1 : n ≤ 9223372036854775807 := by omega
 have hm2 : m ≤ 9223372036854775807 := by omega
 have HN := Lib.hid hn
 have HM := Lib.hid hm
 have HR := Lib.hid hr
 have HQ := Lib.hid hq
 have HP := Lib.hid hpl
 have HQL := Lib.hid hql
 have HL := Lib.hid hl
 have HL2 := Lib.hid hl2
 clear hn hm hr hq hpl hql hl hl2
 have hin : inB n 1 24 = true := by simp [inB]; omega
 obtain ⟨g, z, rfl, hz, c0⟩ := HR.out.int (show 0 < n by omega)
 have hg := HL.out g rfl
 have hni : (0 : Int) < (n : Int) := by omega
 rw [getD_of hz] at h0
 rw [h0] at c0 hz
 have hm9 : ¬ ((24 : Int) < (m : Int)) := by omega
 have H0 := Lib.hid (getD_of hz)
 clear h0 hz
 go_enter Tryz.func100, Tryz.ntmps100
 go_wp2_with (go_at_call 54; refine (within_any _ _ _ _).mono ?_; rintro e w' ⟨rfl, rfl⟩; rw [hin])
 have bx0 : (w.alloc (.cells #[.slice (some ⟨g, 0, none⟩) n c, .slice B m d] 26)).cell? ⟨w.heap.size, 0, none⟩ = some (.slice (some ⟨g, 0, none⟩) n c) := by simp [go_sem]
 have bx1 : (w.alloc (.cells #[.slice (some ⟨g, 0, none⟩) n c, .slice B m d] 26)).cell? ⟨w.heap.size, 1, none⟩ = some (.slice B m d) := by simp [go_sem]
 have BA : Below w.heap.size w (w.alloc (.cells #[.slice (some ⟨g, 0, none⟩) n c, .slice B m d] 26)) := zAa _ _
 have hsz : w.heap.size < (w.alloc (.cells #[.slice (some ⟨g, 0, none⟩) n c, .slice B m d] 26)).heap.size := by simp
 generalize w.alloc (.cells #[.slice (some ⟨g, 0, none⟩) n c, .slice B m d] 26) = w1 at *
 have HBA := Lib.hid BA
 clear BA
 go_loop [3] (fun i => ∃ k : Nat, 1 ≤ k ∧ k ≤ n ∧ i = .int .i64 k ∧ ∀ j, 1 ≤ j → j < k → 0 ≤ ps.getD j 0 ∧ ps.getD j 0 < j) (fun i => n - (intOf i).toNat)
 case atStart => exact ⟨1, Nat.le_refl _, h1, rfl, fun j a b => by omega⟩
 case round =>
  obtain ⟨k, hk1, hk, rfl, hall⟩ := hrel
  have HA := Lib.hid hall
  clear hall
  by_cases hlt : k < n
  ·have hlt' : (k : Int) < n := by omega
   obtain ⟨g', z, hg', hz, d0⟩ := HR.out.int hlt
   simp only [Option.some.injEq, Addr.mk.injEq] at hg'
   obtain ⟨rfl, -⟩ := hg'
   have D0 := (HBA.out.cell (p := ⟨g, k, none⟩) hg).trans d0
   have HZ := Lib.hid (getD_of hz)
   clear hz d0
   have hk9 : IntKind.i64.wrap ((k : Int) - 1) = (k : Int) - 1 := IntWalk.i64_in _ (by omega)
   by_cases hp : 0 ≤ z ∧ z < k
   ·have hin2 : inB z 0 ((k : Int) - 1) = true := by simp [inB]; omega
    go_wp2_with (go_at_call 54; refine (within_any _ _ _ _).mono ?_; rintro e w' ⟨rfl, rfl⟩; rw [hin2])
    go_round
    case rel =>
     refine ⟨k + 1, by omega, by omega, by go_num, fun j a b => ?_⟩
     rcases Nat.lt_or_ge j k with h | h
     ·exact HA.out j a h
     ·have : j = k := by omega
      rw [this, HZ.out]; exact hp
    case measure => simp [intOf]; omega
   ·have hin2 : inB z 0 ((k : Int) - 1) = false := by
     simp only [inB, Bool.and_eq_false_iff, decide_eq_false_iff_not]; omega
    have HF := Lib.hid (topo_par (ps := ps) (ns := ns) (k := k) (by rw [HP.out]; exact hlt) hk1 (by rw [HZ.out]; exact hp))
    clear hp
    go_wp2_with (go_at_call 54; refine (within_any _ _ _ _).mono ?_; rintro e w' ⟨rfl, rfl⟩; rw [hin2])
    go_ret
    exact ⟨zAj HF.out.symm, HBA.out⟩
  ·have hk9 : k = n := by omega
   subst hk9
   have hpo : parOk ps := fun s a b => HA.out s a (by rw [← HP.out]; exact b)
   have HO := Lib.hid hpo
   have RD1 := Lib.hid (HR.out.below HL.out HBA.out)
   clear hpo
   go_wp2_with fail
   go_loop [4, 46] (fun v i => ∃ (j : Nat) (D : Int), j ≤ k ∧ i = .int .i64 j ∧ v = .int .i64 D ∧ -1 ≤ D ∧ deepOk ps j D) (fun _ i => k - (intOf i).toNat)
   case atStart => exact ⟨0, -1, Nat.zero_le _, rfl, rfl, by omega, Or.inl ⟨rfl, fun j hj => by omega⟩⟩
   case round =>
    obtain ⟨j, D, hj, rfl, rfl, hD, hdo⟩ := hrel
    have HD := Lib.hid hdo
    clear hdo
    by_cases hjlt : j < k
    ·have hjlt' : (j : Int) < k := by omega
     cases hlf : leafB ps j
     ·have hlf2 : leafI ps (j : Int) = false := by rw [leafI_eq]; exact hlf
      have HLF := Lib.hid hlf
      clear hlf
      go_wp2_with (go_at_call 174; refine (isLeaf_any _ _ _ _ _ _ HN.out RD1.out).mono ?_; rintro e w' ⟨rfl, rfl⟩; rw [hlf2])
      go_round
      case rel => exact ⟨j + 1, D, by omega, by go_num, rfl, hD, deepOk_no HD.out HLF.out⟩
      case measure => simp [intOf]; omega
     ·have hlf2 : leafI ps (j : Int) = true := by rw [leafI_eq]; exact hlf
      have HLF := Lib.hid hlf
      clear hlf
      by_cases hdn : D < 0
      ·have hdn' : ¬ (0 ≤ D) := by omega
       go_wp2_with (first | (go_at_call 174; refine (isLeaf_any _ _ _ _ _ _ HN.out RD1.out).mono ?_; rintro e w' ⟨rfl, rfl⟩; rw [hlf2]) | (go_at_call 166; refine (depth_any _ _ _ _ _ _ HN.out RD1.out HO.out hjlt).mono ?_; rintro e w' ⟨rfl, rfl⟩))
       go_round
       case rel => exact ⟨j + 1, dep ps j, by omega, by go_num, rfl, by omega, deepOk_yes HD.out HLF.out (Or.inl hdn)⟩
       case measure => simp [intOf]; omega
      ·have hdn' : 0 ≤ D := by omega
       by_cases hde : (dep ps j : Int) = D
       ·have hde' : ((dep ps j : Int) != D) = false := by simp [hde]
        have hde2 : ((dep ps j : Int) == D) = true := by simp [hde]
        have HDE := Lib.hid hde
        clear hde
        go_wp2_with (first | (go_at_call 174; refine (isLeaf_any _ _ _ _ _ _ HN.out RD1.out).mono ?_; rintro e w' ⟨rfl, rfl⟩; rw [hlf2]) | (go_at_call 166; refine (depth_any _ _ _ _ _ _ HN.out RD1.out HO.out hjlt).mono ?_; rintro e w' ⟨rfl, rfl⟩))
        go_round
        case rel => exact ⟨j + 1, dep ps j, by omega, by go_num, rfl, by omega, deepOk_yes HD.out HLF.out (Or.inr HDE.out)⟩
        case measure => simp [intOf]; omega
       ·have hde' : ((dep ps j : Int) != D) = true := by simp [hde]
        have hde2 : ((dep ps j : Int) == D) = false := by simp [hde]
        have HF : Hid (topoOkB ps ns = false) := by
         refine Lib.hid ?_
         rcases HD.out with ⟨h, _⟩ | ⟨l, hlk, hll, h, _⟩
         ·omega
         ·exact topo_uneven (a := j) (b := l) (by rw [HP.out]; exact hjlt) (by rw [HP.out]; omega) HLF.out hll (fun e => hde (by rw [e, h]))
        clear hde
        go_wp2_with (first | (go_at_call 174; refine (isLeaf_any _ _ _ _ _ _ HN.out RD1.out).mono ?_; rintro e w' ⟨rfl, rfl⟩; rw [hlf2]) | (go_at_call 166; refine (depth_any _ _ _ _ _ _ HN.out RD1.out HO.out hjlt).mono ?_; rintro e w' ⟨rfl, rfl⟩))
        go_ret
        exact ⟨zAj HF.out.symm, HBA.out⟩
    ·have hj9 : j = k := by omega
     subst hj9
     have hev := deepOk_even HP.out HD.out h1 HO.out
     have HEV := Lib.hid hev
     clear hev
     go_wp2_with fail
     go_loopw [70] (fun i wr => ∃ x : Nat, x ≤ m ∧ i = .int .i64 x ∧ Below w1.heap.size w1 wr ∧ ∀ y q, y < x → ns[y]? = some q → nodeOk ps q = true) (fun i _ => m - (intOf i).toNat)
     case atStart => exact ⟨0, Nat.zero_le _, rfl, Below.refl _ _, fun y q hy _ => by omega⟩
     case round =>
      obtain ⟨x, hx, rfl, hb, hall⟩ := hrel
      have HAL := Lib.hid hall
      have HB := Lib.hid hb
      have xb0 := (hb.cell (p := ⟨w.heap.size, 0, none⟩) hsz).trans bx0
      have xb1 := (hb.cell (p := ⟨w.heap.size, 1, none⟩) hsz).trans bx1
      have hszr := Nat.lt_of_lt_of_le hsz hb.size
      clear hall hb
      by_cases hxlt : x < m
      ·have hxlt' : (x : Int) < m := by omega
       obtain ⟨gb, q, rfl, hq, d0, d1, d2, d3⟩ := HQ.out.q hxlt
       have hgb := HL2.out gb rfl
       have BB : Below w.heap.size w wr := zAc HBA.out HB.out
       have D0 := (BB.cell (p := ⟨gb, x * 4, none⟩) hgb).trans d0
       have D1 := (BB.cell (p := ⟨gb, x * 4 + 1, none⟩) hgb).trans d1
       have D2 := (BB.cell (p := ⟨gb, x * 4 + 2, none⟩) hgb).trans d2
       have D3 := (BB.cell (p := ⟨gb, x * 4 + 3, none⟩) hgb).trans d3
       have hmem : q ∈ ns := List.mem_of_getElem? hq
       have HMEM := Lib.hid hmem
       have HBB := Lib.hid BB
       have HGQ := Lib.hid hq
       have hn9 : IntKind.i64.wrap ((j : Int) - 1) = (j : Int) - 1 := IntWalk.i64_in _ (by omega)
       have RDR := Lib.hid (HR.out.below HL.out BB)
       clear d0 d1 d2 d3 hmem BB hq
       by_cases hrg : 0 ≤ q.t ∧ q.t < j
       ·have hin3 : inB q.t 0 ((j : Int) - 1) = true := by simp [inB]; omega
        cases hlf : leafI ps q.t
        ·have HF := Lib.hid (topo_node (ps := ps) HMEM.out (show nodeOk ps q = false by unfold nodeOk; rw [hlf]; simp))
         go_wp2_with (first | (go_at_call 54; refine (within_any _ _ _ _).mono ?_; rintro e w' ⟨rfl, rfl⟩; rw [hin3]) | (go_at_call 174; refine (isLeaf_any _ _ _ _ _ _ HN.out (RDR.out.below (zAi HL.out HBB.out) (zAa _ _))).mono ?_; rintro e w' ⟨rfl, rfl⟩; rw [hlf]))
         go_ret
         exact ⟨zAj HF.out.symm, (by repeat (first | exact Below.refl _ _ | assumption | exact zAc (by assumption) (by assumption) | (refine zAc ?_ (zAa _ _)) | (refine zAc ?_ (by assumption)) | (refine Below.setCell ?_ (by simp <;> omega) _) | refine Below.drew ?_))⟩
        ·cases hvo : vecOkB q.a q.b q.c
         ·have HF := Lib.hid (topo_node (ps := ps) HMEM.out (show nodeOk ps q = false by unfold nodeOk; rw [hvo]; simp))
          go_wp2_with (first | (go_at_call 54; refine (within_any _ _ _ _).mono ?_; rintro e w' ⟨rfl, rfl⟩; rw [hin3]) | (go_at_call 174; refine (isLeaf_any _ _ _ _ _ _ HN.out (RDR.out.below (zAi HL.out HBB.out) (zAa _ _))).mono ?_; rintro e w' ⟨rfl, rfl⟩; rw [hlf]) | (go_at_call 101; refine (vecOk_raw _ _ _ _).mono ?_; rintro e w5 ⟨rfl, hb5⟩; rw [hvo]))
          go_ret
          exact ⟨zAj HF.out.symm, (by repeat (first | exact Below.refl _ _ | assumption | exact zAc (by assumption) (by assumption) | (refine zAc ?_ (zAa _ _)) | (refine zAc ?_ (by assumption)) | (refine Below.setCell ?_ (by simp <;> omega) _) | refine Below.drew ?_))⟩
         ·have HNO : Hid (nodeOk ps q = true) := by
           refine Lib.hid ?_
           unfold nodeOk
           rw [hvo, hlf, HP.out]
           simp; omega
          go_wp2_with (first | (go_at_call 54; refine (within_any _ _ _ _).mono ?_; rintro e w' ⟨rfl, rfl⟩; rw [hin3]) | (go_at_call 174; refine (isLeaf_any _ _ _ _ _ _ HN.out (RDR.out.below (zAi HL.out HBB.out) (zAa _ _))).mono ?_; rintro e w' ⟨rfl, rfl⟩; rw [hlf]) | (go_at_call 101; refine (vecOk_raw _ _ _ _).mono ?_; rintro e w5 ⟨rfl, hb5⟩; rw [hvo]))
          go_roundw
          case rel =>
           refine ⟨x + 1, by omega, by go_num, (by repeat (first | exact Below.refl _ _ | assumption | exact zAc (by assumption) (by assumption) | (refine zAc ?_ (zAa _ _)) | (refine zAc ?_ (by assumption)) | (refine Below.setCell ?_ (by simp <;> omega) _) | refine Below.drew ?_)), fun y q' hy hq' => ?_⟩
           rcases Nat.lt_or_ge y x with h | h
           ·exact HAL.out y q' h hq'
           ·have : y = x := by omega
            rw [this, HGQ.out] at hq'
            injection hq' with hq'
            rw [← hq']; exact HNO.out
          case measure => simp [intOf]; omega
       ·have hin3 : inB q.t 0 ((j : Int) - 1) = false := by
         simp only [inB, Bool.and_eq_false_iff, decide_eq_false_iff_not]; omega
        have HF := Lib.hid (topo_node (ps := ps) HMEM.out (show nodeOk ps q = false by
         unfold nodeOk
         rw [HP.out]
         rcases Classical.not_and_iff_not_or_not.1 hrg with h | h
         ·simp [h]
         ·simp [h]))
        clear hrg
        go_wp2_with (go_at_call 54; refine (within_any _ _ _ _).mono ?_; rintro e w' ⟨rfl, rfl⟩; rw [hin3])
        go_ret
        exact ⟨zAj HF.out.symm, zAc HBB.out (zAa _ _)⟩
      ·have hx9 : x = m := by omega
       subst hx9
       have hfin := topo_all HP.out HQL.out h1 h24 H0.out hm24 HO.out (fun k q a b => HAL.out k q a b)
       rw [HEV.out] at hfin
       have HF := Lib.hid hfin
       clear hfin
       go_wp2
       go_ret
       exact ⟨zAj HF.out.symm, zAc HBA.out HB.out⟩
end Go.Proofs.YtnphjhbfpoekpaaGreat
