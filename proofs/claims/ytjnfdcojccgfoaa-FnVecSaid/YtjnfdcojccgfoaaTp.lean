/-
  The plain law of the tree of switches: levels counted from the leaves up are heights less depths.
-/
namespace Go.Proofs.Ytjnfdcojccgfoaa
set_option linter.unusedSimpArgs false
set_option linter.unusedVariables false
set_option linter.unnecessarySimpa false

def par (ps : List Int) (s : Nat) : Nat := (ps.getD s 0).toNat
def parOk (ps : List Int) : Prop := ∀ s, 1 ≤ s → s < ps.length → 0 ≤ ps.getD s 0 ∧ ps.getD s 0 < s
theorem par_lt {ps : List Int} (h : parOk ps) {s : Nat} (h1 : 1 ≤ s) (hs : s < ps.length) : par ps s < s := by
  have := h s h1 hs; unfold par; omega
/-- How far a switch is from the root, by steps. -/
def depN (ps : List Int) : Nat → Nat → Nat
  | 0, _ => 0
  | f + 1, s => if s = 0 then 0 else depN ps f (par ps s) + 1
def dep (ps : List Int) (s : Nat) : Nat := depN ps s s
theorem depN_eq {ps : List Int} (h : parOk ps) : ∀ f s, s ≤ f → s < ps.length → depN ps f s = dep ps s := by
  intro f
  induction f using Nat.strongRecOn with
  | _ f ih =>
    intro s hs hl
    unfold dep
    cases f with
    | zero => have : s = 0 := by omega
              subst this; rfl
    | succ f =>
      cases s with
      | zero => simp [depN]
      | succ s =>
        have hp := par_lt h (s := s + 1) (by omega) hl
        simp only [depN]
        rw [if_neg (by omega), if_neg (by omega), ih f (by omega) _ (by omega) (by omega), ih s (by omega) _ (by omega) (by omega)]
theorem dep_zero (ps : List Int) : dep ps 0 = 0 := rfl
theorem dep_pos {ps : List Int} (h : parOk ps) {s : Nat} (h1 : 1 ≤ s) (hs : s < ps.length) : dep ps s = dep ps (par ps s) + 1 := by
  have hp := par_lt h h1 hs
  cases s with
  | zero => omega
  | succ s =>
    show (if s + 1 = 0 then 0 else depN ps s (par ps (s + 1)) + 1) = _
    rw [if_neg (by omega), depN_eq h s _ (by omega) (by omega)]
theorem dep_le {ps : List Int} (h : parOk ps) : ∀ s, s < ps.length → dep ps s ≤ s := by
  intro s
  induction s using Nat.strongRecOn with
  | _ s ih =>
    intro hs
    by_cases h1 : 1 ≤ s
    · have hp := par_lt h h1 hs
      rw [dep_pos h h1 hs]
      have := ih _ hp (by omega)
      omega
    · have : s = 0 := by omega
      subst this; simp [dep_zero]
/-- The way up: a switch, its parent, and so on. -/
def upN (ps : List Int) : Nat → Nat → List Nat
  | 0, s => [s]
  | f + 1, s => if s = 0 then [s] else s :: upN ps f (par ps s)
def up (ps : List Int) (s : Nat) : List Nat := upN ps s s
theorem upN_eq {ps : List Int} (h : parOk ps) : ∀ f s, s ≤ f → s < ps.length → upN ps f s = up ps s := by
  intro f
  induction f using Nat.strongRecOn with
  | _ f ih =>
    intro s hs hl
    unfold up
    cases f with
    | zero => have : s = 0 := by omega
              subst this; rfl
    | succ f =>
      cases s with
      | zero => simp [upN]
      | succ s =>
        have hp := par_lt h (s := s + 1) (by omega) hl
        simp only [upN]
        rw [if_neg (by omega), if_neg (by omega), ih f (by omega) _ (by omega) (by omega), ih s (by omega) _ (by omega) (by omega)]
theorem up_zero (ps : List Int) : up ps 0 = [0] := rfl
theorem up_pos {ps : List Int} (h : parOk ps) {s : Nat} (h1 : 1 ≤ s) (hs : s < ps.length) : up ps s = s :: up ps (par ps s) := by
  have hp := par_lt h h1 hs
  cases s with
  | zero => omega
  | succ s =>
    show (if s + 1 = 0 then [s + 1] else (s + 1) :: upN ps s (par ps (s + 1))) = _
    rw [if_neg (by omega), upN_eq h s _ (by omega) (by omega)]
theorem up_len {ps : List Int} (h : parOk ps) : ∀ s, s < ps.length → (up ps s).length = dep ps s + 1 := by
  intro s
  induction s using Nat.strongRecOn with
  | _ s ih =>
    intro hs
    by_cases h1 : 1 ≤ s
    · have hp := par_lt h h1 hs
      rw [dep_pos h h1 hs, up_pos h h1 hs, List.length_cons, ih _ hp (by omega)]
    · have : s = 0 := by omega
      subst this; rfl
theorem up_self {ps : List Int} (s : Nat) : s ∈ up ps s := by
  unfold up; cases s <;> simp [upN]
theorem up_le {ps : List Int} (h : parOk ps) : ∀ s, s < ps.length → ∀ x ∈ up ps s, x ≤ s := by
  intro s
  induction s using Nat.strongRecOn with
  | _ s ih =>
    intro hs x hx
    by_cases h1 : 1 ≤ s
    · have hp := par_lt h h1 hs
      rw [up_pos h h1 hs] at hx
      rcases List.mem_cons.1 hx with rfl | hx
      · omega
      · have := ih _ hp (by omega) x hx; omega
    · have : s = 0 := by omega
      subst this; simp [up_zero] at hx; omega

def isKid (ps : List Int) (s i : Nat) : Bool := decide (1 ≤ i) && decide (ps.getD i 0 = s)
def kids (ps : List Int) (s : Nat) : List Nat := (List.range ps.length).filter (isKid ps s)
theorem mem_kids {ps : List Int} {s i : Nat} : i ∈ kids ps s ↔ i < ps.length ∧ 1 ≤ i ∧ ps.getD i 0 = s := by
  unfold kids isKid
  rw [List.mem_filter, List.mem_range]
  simp
theorem kid_par {ps : List Int} {s i : Nat} (h : i ∈ kids ps s) : par ps i = s := by
  have := mem_kids.1 h; unfold par; omega
theorem kid_gt {ps : List Int} (hp : parOk ps) {s i : Nat} (h : i ∈ kids ps s) : s < i := by
  have h1 := mem_kids.1 h; have := hp i h1.2.1 h1.1; omega
def leafB (ps : List Int) (s : Nat) : Bool := (kids ps s).isEmpty
/-- What the levels of the kids come to. -/
def comb (l : List Int) : Int := match l with
  | [] => 0
  | x :: r => if x < 0 then -1 else if r.all (· == x) then x + 1 else -1
def levN (ps : List Int) : Nat → Nat → Int
  | 0, _ => 0
  | f + 1, s => comb ((kids ps s).map (levN ps f))
def lev (ps : List Int) (s : Nat) : Int := levN ps (ps.length - s) s
theorem levN_eq {ps : List Int} (h : parOk ps) : ∀ f s, ps.length - s ≤ f → s < ps.length → levN ps f s = lev ps s := by
  intro f
  induction f using Nat.strongRecOn with
  | _ f ih =>
    intro s hf hs
    unfold lev
    cases f with
    | zero => omega
    | succ f =>
      obtain ⟨g, hg⟩ : ∃ g, ps.length - s = g + 1 := ⟨ps.length - s - 1, by omega⟩
      rw [hg]
      show comb _ = comb _
      congr 1
      apply List.map_congr_left
      intro k hk
      have h1 := (mem_kids.1 hk).1
      have h2 := kid_gt h hk
      rw [ih f (by omega) k (by omega) h1]
      by_cases hgf : g < f + 1
      · exact (ih g hgf k (by omega) h1).symm
      · have : g = f := by omega
        subst this; exact (ih g (by omega) k (by omega) h1).symm
theorem lev_eq {ps : List Int} (h : parOk ps) {s : Nat} (hs : s < ps.length) : lev ps s = comb ((kids ps s).map (lev ps)) := by
  unfold lev
  obtain ⟨g, hg⟩ : ∃ g, ps.length - s = g + 1 := ⟨ps.length - s - 1, by omega⟩
  rw [hg]
  show comb _ = comb _
  congr 1
  apply List.map_congr_left
  intro k hk
  exact levN_eq h g k (by have := kid_gt h hk; omega) (mem_kids.1 hk).1
theorem leaf_below {ps : List Int} (h : parOk ps) : ∀ d s, ps.length - s ≤ d → s < ps.length → ∃ l, l < ps.length ∧ leafB ps l = true ∧ s ∈ up ps l := by
  intro d
  induction d with
  | zero => intro s h1 h2; omega
  | succ d ih =>
    intro s h1 h2
    by_cases hl : leafB ps s = true
    · exact ⟨s, h2, hl, up_self s⟩
    · obtain ⟨k, hk⟩ : ∃ k, k ∈ kids ps s := by
        unfold leafB at hl
        cases hks : kids ps s with
        | nil => rw [hks] at hl; simp at hl
        | cons k r => exact ⟨k, by simp⟩
      have hgt := kid_gt h hk
      have hkn := (mem_kids.1 hk).1
      obtain ⟨l, hl1, hl2, hl3⟩ := ih k (by omega) hkn
      refine ⟨l, hl1, hl2, ?_⟩
      have : ∀ l, l < ps.length → k ∈ up ps l → s ∈ up ps l := by
        intro l
        induction l using Nat.strongRecOn with
        | _ l ihl =>
          intro hll hkl
          by_cases h3 : 1 ≤ l
          · have hp := par_lt h h3 hll
            rw [up_pos h h3 hll] at hkl ⊢
            rcases List.mem_cons.1 hkl with rfl | hkl
            · refine List.mem_cons_of_mem _ ?_
              rw [kid_par hk]; exact up_self s
            · exact List.mem_cons_of_mem _ (ihl _ hp (by omega) hkl)
          · have : l = 0 := by omega
            subst this
            simp [up_zero] at hkl; omega
      exact this l hl1 hl3
theorem up_kid {ps : List Int} (h : parOk ps) {s k : Nat} (hk : k ∈ kids ps s) : ∀ l, l < ps.length → k ∈ up ps l → s ∈ up ps l := by
  intro l
  induction l using Nat.strongRecOn with
  | _ l ihl =>
    intro hll hkl
    have hgt := kid_gt h hk
    by_cases h3 : 1 ≤ l
    · have hp := par_lt h h3 hll
      rw [up_pos h h3 hll] at hkl ⊢
      rcases List.mem_cons.1 hkl with rfl | hkl
      · refine List.mem_cons_of_mem _ ?_
        rw [kid_par hk]; exact up_self s
      · exact List.mem_cons_of_mem _ (ihl _ hp (by omega) hkl)
    · have : l = 0 := by omega
      subst this
      simp [up_zero] at hkl; omega
theorem up_split {ps : List Int} (h : parOk ps) {s : Nat} : ∀ l, l < ps.length → s ∈ up ps l → s = l ∨ ∃ k ∈ kids ps s, k ∈ up ps l := by
  intro l
  induction l using Nat.strongRecOn with
  | _ l ihl =>
    intro hll hsl
    by_cases h3 : 1 ≤ l
    · have hp := par_lt h h3 hll
      rw [up_pos h h3 hll] at hsl ⊢
      rcases List.mem_cons.1 hsl with rfl | hsl
      · exact Or.inl rfl
      · rcases ihl _ hp (by omega) hsl with e | ⟨k, hk, hkl⟩
        · refine Or.inr ⟨l, ?_, List.mem_cons_self ..⟩
          rw [mem_kids]
          refine ⟨hll, h3, ?_⟩
          have := h l h3 hll
          unfold par at e; omega
        · exact Or.inr ⟨k, hk, List.mem_cons_of_mem _ hkl⟩
    · have : l = 0 := by omega
      subst this
      simp [up_zero] at hsl; exact Or.inl hsl
theorem comb_ge (l : List Int) : 0 ≤ comb l ∨ comb l = -1 := by
  cases l with
  | nil => left; simp [comb]
  | cons x r => simp only [comb]; split <;> (try split) <;> omega
theorem lev_ge {ps : List Int} (h : parOk ps) {s : Nat} (hs : s < ps.length) : 0 ≤ lev ps s ∨ lev ps s = -1 := by
  rw [lev_eq h hs]; exact comb_ge _
/-- Levels count from the leaves up. -/
theorem lev_dep {ps : List Int} (h : parOk ps) : ∀ d s, ps.length - s ≤ d → s < ps.length → 0 ≤ lev ps s → ∀ l, l < ps.length → leafB ps l = true → s ∈ up ps l → (dep ps l : Int) = dep ps s + lev ps s := by
  intro d
  induction d with
  | zero => intro s h1 h2; omega
  | succ d ih =>
    intro s h1 hs h0 l hl hlf hsl
    rw [lev_eq h hs] at h0 ⊢
    cases hks : kids ps s with
    | nil =>
      rw [hks] at h0
      rcases up_split h l hl hsl with rfl | ⟨k, hk, _⟩
      · simp [comb]
      · rw [hks] at hk; cases hk
    | cons k0 r =>
      rw [hks] at h0
      rcases up_split h l hl hsl with rfl | ⟨k, hk, hkl⟩
      · unfold leafB at hlf; rw [hks] at hlf; simp at hlf
      · have hkn := (mem_kids.1 hk).1
        have hgt := kid_gt h hk
        have hdk : dep ps k = dep ps s + 1 := by rw [dep_pos h (mem_kids.1 hk).2.1 hkn, kid_par hk]
        simp only [List.map_cons, comb] at h0 ⊢
        by_cases hx : lev ps k0 < 0
        · rw [if_pos hx] at h0; omega
        · rw [if_neg hx] at h0 ⊢
          by_cases hr : (r.map (lev ps)).all (· == lev ps k0) = true
          · rw [if_pos hr]
            have hlk : lev ps k = lev ps k0 := by
              rw [hks] at hk
              rcases List.mem_cons.1 hk with rfl | hk
              · rfl
              · rw [List.all_eq_true] at hr
                have := hr (lev ps k) (List.mem_map_of_mem hk)
                simpa using this
            have := ih k (by omega) hkn (by omega) l hl hlf hkl
            omega
          · rw [if_neg hr] at h0; omega
theorem lev_of {ps : List Int} (h : parOk ps) : ∀ d s, ps.length - s ≤ d → s < ps.length → (∃ H : Nat, ∀ l, l < ps.length → leafB ps l = true → s ∈ up ps l → dep ps l = H) → 0 ≤ lev ps s := by
  intro d
  induction d with
  | zero => intro s h1 h2; omega
  | succ d ih =>
    intro s h1 hs ⟨H, hH⟩
    have key : ∀ k ∈ kids ps s, lev ps k = (H : Int) - dep ps s - 1 ∧ 0 ≤ lev ps k := by
      intro k hk
      have hkn := (mem_kids.1 hk).1
      have hgt := kid_gt h hk
      have hdk : dep ps k = dep ps s + 1 := by rw [dep_pos h (mem_kids.1 hk).2.1 hkn, kid_par hk]
      have h0 := ih k (by omega) hkn ⟨H, fun l hl hlf hkl => hH l hl hlf (up_kid h hk l hl hkl)⟩
      obtain ⟨l, hl, hlf, hkl⟩ := leaf_below h (ps.length - k) k (Nat.le_refl _) hkn
      have h2 := lev_dep h _ k (Nat.le_refl _) hkn h0 l hl hlf hkl
      have h3 := hH l hl hlf (up_kid h hk l hl hkl)
      omega
    rw [lev_eq h hs]
    cases hks : kids ps s with
    | nil => simp [comb]
    | cons k0 r =>
      rw [hks] at key
      have h0 := key k0 (by simp)
      simp only [List.map_cons, comb]
      rw [if_neg (by omega), if_pos]
      · omega
      · rw [List.all_eq_true]
        intro x hx
        obtain ⟨k, hk, rfl⟩ := List.mem_map.1 hx
        have := key k (by simp [hk])
        simp only [beq_iff_eq]
        omega
theorem zero_up {ps : List Int} (h : parOk ps) : ∀ l, l < ps.length → 0 ∈ up ps l := by
  intro l
  induction l using Nat.strongRecOn with
  | _ l ihl =>
    intro hll
    by_cases h3 : 1 ≤ l
    · have hp := par_lt h h3 hll
      rw [up_pos h h3 hll]
      exact List.mem_cons_of_mem _ (ihl _ hp (by omega))
    · have : l = 0 := by omega
      subst this
      simp [up_zero]
theorem last_leaf {ps : List Int} (h : parOk ps) (h1 : 1 ≤ ps.length) : leafB ps (ps.length - 1) = true := by
  unfold leafB
  cases hks : kids ps (ps.length - 1) with
  | nil => rfl
  | cons k r =>
    have hk : k ∈ kids ps (ps.length - 1) := by rw [hks]; simp
    have := kid_gt h hk
    have := (mem_kids.1 hk).1
    omega
/-- All leaves are equally far from the root. -/
def evenB (ps : List Int) : Bool := (List.range ps.length).all fun l => !leafB ps l || dep ps l == dep ps (ps.length - 1)
theorem lev_even {ps : List Int} (h : parOk ps) (h1 : 1 ≤ ps.length) : evenB ps = decide (0 ≤ lev ps 0) := by
  rw [Bool.eq_iff_iff, decide_eq_true_eq]
  unfold evenB
  rw [List.all_eq_true]
  constructor
  · intro ha
    refine lev_of h _ 0 (Nat.le_refl _) (by omega) ⟨dep ps (ps.length - 1), fun l hl hlf _ => ?_⟩
    have := ha l (List.mem_range.2 hl)
    simpa [hlf] using this
  · intro h0 l hl
    have hl := List.mem_range.1 hl
    by_cases hlf : leafB ps l = true
    · have e1 := lev_dep h _ 0 (Nat.le_refl _) (by omega) h0 l hl hlf (zero_up h l hl)
      have e2 := lev_dep h _ 0 (Nat.le_refl _) (by omega) h0 _ (by omega) (last_leaf h h1) (zero_up h (ps.length - 1) (by omega))
      simp [hlf]; omega
    · simp [hlf]
theorem lev_height {ps : List Int} (h : parOk ps) (h1 : 1 ≤ ps.length) (he : evenB ps = true) {s : Nat} (hs : s < ps.length) : lev ps s = (dep ps (ps.length - 1) : Int) - dep ps s ∧ dep ps s ≤ dep ps (ps.length - 1) := by
  unfold evenB at he
  rw [List.all_eq_true] at he
  have hev : ∀ l, l < ps.length → leafB ps l = true → dep ps l = dep ps (ps.length - 1) := fun l hl hlf => by
    have := he l (List.mem_range.2 hl)
    simpa [hlf] using this
  have h0 := lev_of h _ s (Nat.le_refl _) hs ⟨_, fun l hl hlf _ => hev l hl hlf⟩
  obtain ⟨l, hl, hlf, hsl⟩ := leaf_below h _ s (Nat.le_refl _) hs
  have := lev_dep h _ s (Nat.le_refl _) hs h0 l hl hlf hsl
  have := hev l hl hlf
  omega
end Go.Proofs.Ytjnfdcojccgfoaa
