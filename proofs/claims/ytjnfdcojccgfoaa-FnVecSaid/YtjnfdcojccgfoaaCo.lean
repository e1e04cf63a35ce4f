/-
  Which nodes are chosen: plain.
-/
import Derived.Test.YtjnfdcojccgfoaaSo
namespace Go.Proofs.Ytjnfdcojccgfoaa
set_option linter.unusedSimpArgs false
set_option linter.unusedVariables false
set_option linter.unnecessarySimpa false
open Go.RowKit
/-! which nodes are chosen: plain -/
theorem pair_ext {α : Type} {r : α → α → Prop} (has : ∀ a b, r a b → r b a → False) (hir : ∀ a, ¬ r a a) : ∀ {a b : List α}, a.Pairwise r → b.Pairwise r → (∀ x, x ∈ a ↔ x ∈ b) → a = b
  | [], [], _, _, _ => rfl
  | [], y :: s, _, _, h => by have := (h y).2 (by simp); cases this
  | x :: t, [], _, _, h => by have := (h x).1 (by simp); cases this
  | x :: t, y :: s, ha, hb, h => by
    rw [List.pairwise_cons] at ha hb
    have hxy : x = y := by
      have h1 := (h x).1 (by simp)
      have h2 := (h y).2 (by simp)
      rw [List.mem_cons] at h1 h2
      rcases h1 with h1 | h1
      · exact h1
      · rcases h2 with h2 | h2
        · exact h2.symm
        · exact (has _ _ (hb.1 x h1) (ha.1 y h2)).elim
    subst hxy
    congr 1
    refine pair_ext has hir ha.2 hb.2 fun z => ?_
    have hz := h z
    simp only [List.mem_cons] at hz
    constructor
    · intro hr
      rcases hz.1 (Or.inr hr) with e | e
      · subst e; exact (hir _ (ha.1 z hr)).elim
      · exact e
    · intro hr
      rcases hz.2 (Or.inr hr) with e | e
      · subst e; exact (hir _ (hb.1 z hr)).elim
      · exact e
def riseAll (xs : List Int) : List Int := xs.foldl (fun o x => rise x o) []
theorem riseAll_snoc (xs : List Int) (x : Int) : riseAll (xs ++ [x]) = rise x (riseAll xs) := by simp [riseAll]
theorem riseAll_aux : ∀ (xs acc : List Int), acc.Pairwise (· < ·) → xs.Nodup → (∀ x ∈ xs, x ∉ acc) → (xs.foldl (fun o x => rise x o) acc).Pairwise (· < ·) ∧ (∀ y, y ∈ xs.foldl (fun o x => rise x o) acc ↔ y ∈ xs ∨ y ∈ acc) ∧ (xs.foldl (fun o x => rise x o) acc).length = xs.length + acc.length
  | [], acc, h, _, _ => ⟨h, by simp, by simp⟩
  | x :: r, acc, h, hn, hd => by
    rw [List.nodup_cons] at hn
    obtain ⟨a, b, c⟩ := riseAll_aux r (rise x acc) (rise_rise x acc h (hd x (by simp))) hn.2 (fun y hy hm => by
      rcases (rise_mem x acc y).1 hm with e | e
      · subst e; exact hn.1 hy
      · exact hd y (by simp [hy]) e)
    refine ⟨a, fun y => ?_, ?_⟩
    · rw [List.foldl_cons, b y, rise_mem]
      simp only [List.mem_cons]
      constructor
      · rintro (h | h | h)
        · exact Or.inl (Or.inr h)
        · exact Or.inl (Or.inl h)
        · exact Or.inr h
      · rintro ((h | h) | h)
        · exact Or.inr (Or.inl h)
        · exact Or.inl h
        · exact Or.inr (Or.inr h)
    · rw [List.foldl_cons, c, rise_len]; simp; omega
theorem riseAll_rise {xs : List Int} (h : xs.Nodup) : (riseAll xs).Pairwise (· < ·) := (riseAll_aux xs [] (by simp) h (by simp)).1
theorem riseAll_mem {xs : List Int} (h : xs.Nodup) (y : Int) : y ∈ riseAll xs ↔ y ∈ xs := by
  have := (riseAll_aux xs [] (by simp) h (by simp)).2.1 y
  simpa [riseAll] using this
theorem riseAll_len (xs : List Int) : (riseAll xs).length = xs.length := by
  have key : ∀ (xs acc : List Int), (xs.foldl (fun o x => rise x o) acc).length = xs.length + acc.length := by
    intro xs
    induction xs with
    | nil => intro acc; simp
    | cons x r ih => intro acc; rw [List.foldl_cons, ih, rise_len]; simp; omega
  simpa [riseAll] using key xs []
/-- A sorted row with the same distinct elements is that one. -/
theorem riseAll_uniq {xs l : List Int} (h : xs.Nodup) (hp : l.Perm xs) (hs : l.Pairwise (· ≤ ·)) : l = riseAll xs := by
  have hn : l.Nodup := hp.nodup_iff.2 h
  have hlt : l.Pairwise (· < ·) := by
    have := hs.and hn
    exact this.imp fun {a b} ⟨h1, h2⟩ => by omega
  exact rise_ext hlt (riseAll_rise h) fun x => by rw [riseAll_mem h, hp.mem_iff]

section
variable (lf : Int → Nat) (mine : List Int)
def group (l : Nat) : List Int := mine.filter fun x => decide (lf x = l)
def cnt (l : Nat) : Nat := (group lf mine l).length
/-- The order of the leaves: more of the nodes first, then the lesser number. -/
def bef (a b : Nat) : Prop := cnt lf mine b < cnt lf mine a ∨ (cnt lf mine a = cnt lf mine b ∧ a < b)
def distF (acc : List Nat) (x : Int) : List Nat := if lf x ∈ acc then acc else acc ++ [lf x]
def dist : List Nat := mine.foldl (distF lf) []
/-- The leaves of the nodes in their order. -/
def IsL (L : List Nat) : Prop := L.Pairwise (bef lf mine) ∧ ∀ l, l ∈ L ↔ ∃ x ∈ mine, lf x = l
end
section
variable {lf : Int → Nat} {mine : List Int}
theorem bef_asymm (a b : Nat) (h : bef lf mine a b) (h' : bef lf mine b a) : False := by unfold bef at h h'; omega
theorem bef_irrefl (a : Nat) : ¬ bef lf mine a a := by unfold bef; omega
theorem bef_trans {a b c : Nat} (h : bef lf mine a b) (h' : bef lf mine b c) : bef lf mine a c := by unfold bef at *; omega
theorem bef_total {a b : Nat} (h : a ≠ b) : bef lf mine a b ∨ bef lf mine b a := by unfold bef; omega
theorem IsL.uniq {L M : List Nat} (h : IsL lf mine L) (h' : IsL lf mine M) : L = M := pair_ext bef_asymm bef_irrefl h.1 h'.1 fun x => by rw [h.2, h'.2]
theorem IsL.nodup {L : List Nat} (h : IsL lf mine L) : L.Nodup := h.1.imp fun {a b} hb e => by subst e; exact bef_irrefl a hb
theorem dist_aux : ∀ (xs : List Int) (acc : List Nat), acc.Nodup → (xs.foldl (distF lf) acc).Nodup ∧ ∀ l, l ∈ xs.foldl (distF lf) acc ↔ l ∈ acc ∨ ∃ x ∈ xs, lf x = l
  | [], acc, h => ⟨h, by simp⟩
  | x :: r, acc, h => by
    rw [List.foldl_cons]
    by_cases hm : lf x ∈ acc
    · have e : distF lf acc x = acc := if_pos hm
      rw [e]
      obtain ⟨a, b⟩ := dist_aux r acc h
      refine ⟨a, fun l => ?_⟩
      rw [b]
      simp only [List.mem_cons, exists_eq_or_imp]
      constructor
      · rintro (h | h)
        · exact Or.inl h
        · exact Or.inr (Or.inr h)
      · rintro (h | h | h)
        · exact Or.inl h
        · exact Or.inl (h ▸ hm)
        · exact Or.inr h
    · have e : distF lf acc x = acc ++ [lf x] := if_neg hm
      rw [e]
      obtain ⟨a, b⟩ := dist_aux r (acc ++ [lf x]) (List.nodup_append.2 ⟨h, by simp, fun a ha b hb e => by simp at hb; subst e; subst hb; exact hm ha⟩)
      refine ⟨a, fun l => ?_⟩
      rw [b]
      simp only [List.mem_append, List.mem_cons, List.not_mem_nil, or_false, exists_eq_or_imp]
      constructor
      · rintro ((h | h) | h)
        · exact Or.inl h
        · exact Or.inr (Or.inl h.symm)
        · exact Or.inr (Or.inr h)
      · rintro (h | h | h)
        · exact Or.inl (Or.inl h)
        · exact Or.inl (Or.inr h.symm)
        · exact Or.inr h
theorem dist_nodup : (dist lf mine).Nodup := (dist_aux mine [] (by simp)).1
theorem dist_mem (l : Nat) : l ∈ dist lf mine ↔ ∃ x ∈ mine, lf x = l := by
  have := (dist_aux (lf := lf) mine [] (by simp)).2 l
  simpa [dist] using this
/-- A row of the leaves that is sorted is that one. -/
theorem isL_of {L : List Nat} (hp : L.Perm (dist lf mine)) (hs : L.Pairwise fun a b => ¬ bef lf mine b a) : IsL lf mine L := by
  have hn : L.Nodup := hp.nodup_iff.2 dist_nodup
  refine ⟨(hs.and hn).imp fun {a b} ⟨h1, h2⟩ => (bef_total h2).resolve_right h1, fun l => ?_⟩
  rw [hp.mem_iff, dist_mem]
instance (a b : Nat) : Decidable (bef lf mine a b) := by unfold bef; infer_instance
def insB (lf : Int → Nat) (mine : List Int) (x : Nat) : List Nat → List Nat
  | [] => [x]
  | y :: t => if bef lf mine x y then x :: y :: t else y :: insB lf mine x t
theorem insB_mem (x : Nat) : ∀ (L : List Nat) (l : Nat), l ∈ insB lf mine x L ↔ l = x ∨ l ∈ L
  | [], l => by simp [insB]
  | y :: t, l => by
    unfold insB
    split
    · simp
    · simp only [List.mem_cons, insB_mem x t l]
      constructor
      · rintro (h | h | h)
        · exact Or.inr (Or.inl h)
        · exact Or.inl h
        · exact Or.inr (Or.inr h)
      · rintro (h | h | h)
        · exact Or.inr (Or.inl h)
        · exact Or.inl h
        · exact Or.inr (Or.inr h)
theorem insB_ord (x : Nat) : ∀ (L : List Nat), L.Pairwise (bef lf mine) → x ∉ L → (insB lf mine x L).Pairwise (bef lf mine)
  | [], _, _ => by simp [insB]
  | y :: t, hp, hxy => by
    simp only [List.mem_cons, not_or] at hxy
    unfold insB
    split
    · rename_i hb
      refine List.pairwise_cons.2 ⟨fun z hz => ?_, hp⟩
      rcases List.mem_cons.1 hz with e | e
      · subst e; exact hb
      · exact bef_trans hb ((List.pairwise_cons.1 hp).1 z e)
    · rename_i hb
      refine List.pairwise_cons.2 ⟨fun z hz => ?_, insB_ord x t (List.pairwise_cons.1 hp).2 hxy.2⟩
      rcases (insB_mem x t z).1 hz with e | e
      · subst e; exact (bef_total hxy.1).resolve_left hb
      · exact (List.pairwise_cons.1 hp).1 z e
def sortL (lf : Int → Nat) (mine : List Int) : List Nat := (dist lf mine).foldr (insB lf mine) []
theorem sortL_isL (lf : Int → Nat) (mine : List Int) : IsL lf mine (sortL lf mine) := by
  have key : ∀ (xs : List Nat), xs.Nodup → (xs.foldr (insB lf mine) []).Pairwise (bef lf mine) ∧ ∀ l, l ∈ xs.foldr (insB lf mine) [] ↔ l ∈ xs := by
    intro xs
    induction xs with
    | nil => intro _; exact ⟨by simp, by simp⟩
    | cons x r ih =>
      intro hn
      rw [List.nodup_cons] at hn
      obtain ⟨h1, h2⟩ := ih hn.2
      rw [List.foldr_cons]
      exact ⟨insB_ord x _ h1 fun h => hn.1 ((h2 x).1 h), fun l => by rw [insB_mem, h2, List.mem_cons]⟩
  obtain ⟨h1, h2⟩ := key (dist lf mine) dist_nodup
  exact ⟨h1, fun l => by unfold sortL; rw [h2, dist_mem]⟩
theorem take_snoc_if {α : Type} (n : Nat) (xs : List α) (x : α) : (xs ++ [x]).take n = if (xs.take n).length < n then xs.take n ++ [x] else xs.take n := by
  by_cases h : xs.length < n
  · rw [if_pos (by simp; omega), List.take_of_length_le (by simp; omega), List.take_of_length_le (by omega)]
  · rw [if_neg (by simp; omega), List.take_append_of_le_length (by omega)]
theorem group_nodup (h : mine.Nodup) (l : Nat) : (group lf mine l).Nodup := h.filter _
theorem flatG_nodup (h : mine.Nodup) : ∀ {L : List Nat}, L.Nodup → (L.flatMap (group lf mine)).Nodup
  | [], _ => by simp
  | l :: r, hl => by
    rw [List.nodup_cons] at hl
    rw [List.flatMap_cons, List.nodup_append]
    refine ⟨group_nodup h l, flatG_nodup h hl.2, fun a ha b hb e => ?_⟩
    subst e
    simp only [group, List.mem_filter, decide_eq_true_eq] at ha
    obtain ⟨l', hl', hb'⟩ := List.mem_flatMap.1 hb
    simp only [group, List.mem_filter, decide_eq_true_eq] at hb'
    exact hl.1 (by rw [← ha.2, hb'.2]; exact hl')
theorem flatG_perm (h : mine.Nodup) {L : List Nat} (hL : IsL lf mine L) : (L.flatMap (group lf mine)).Perm mine := by
  refine (List.perm_ext_iff_of_nodup (flatG_nodup h hL.nodup) h).2 fun x => ?_
  rw [List.mem_flatMap]
  simp only [group, List.mem_filter, decide_eq_true_eq]
  constructor
  · rintro ⟨l, _, hx, _⟩; exact hx
  · intro hx; exact ⟨lf x, (hL.2 _).2 ⟨x, hx, rfl⟩, hx, rfl⟩
theorem flatG_len (h : mine.Nodup) {L : List Nat} (hL : IsL lf mine L) : (L.flatMap (group lf mine)).length = mine.length := (flatG_perm h hL).length_eq
/-- What the reference picks next. -/
def pickF (cn : Nat → Nat) (lp : Nat → Bool) (taken : List Nat) (best : Int) (s : Nat) : Int :=
  if cn s = 0 ∨ lp s = false ∨ s ∈ taken then best else if best < 0 ∨ cn best.toNat < cn s then (s : Int) else best
def pick (cn : Nat → Nat) (lp : Nat → Bool) (taken : List Nat) (N : Nat) : Int := (List.range N).foldl (pickF cn lp taken) (-1)
theorem pick_succ (cn : Nat → Nat) (lp : Nat → Bool) (taken : List Nat) (N : Nat) : pick cn lp taken (N + 1) = pickF cn lp taken (pick cn lp taken N) N := by simp [pick, List.range_succ]
def candB (cn : Nat → Nat) (lp : Nat → Bool) (taken : List Nat) (s : Nat) : Prop := cn s ≠ 0 ∧ lp s = true ∧ s ∉ taken
theorem pick_spec (cn : Nat → Nat) (lp : Nat → Bool) (taken : List Nat) : ∀ N, (pick cn lp taken N = -1 ∧ ∀ s, s < N → ¬ candB cn lp taken s) ∨
    ∃ b : Nat, pick cn lp taken N = b ∧ b < N ∧ candB cn lp taken b ∧ ∀ s, s < N → candB cn lp taken s → s ≠ b → cn s < cn b ∨ (cn s = cn b ∧ b < s)
  | 0 => Or.inl ⟨rfl, fun s hs => absurd hs (by omega)⟩
  | N + 1 => by
    rw [pick_succ]
    by_cases hc : candB cn lp taken N
    · have hn : ¬ (cn N = 0 ∨ lp N = false ∨ N ∈ taken) := by
        unfold candB at hc; simp [hc.1, hc.2.1, hc.2.2]
      rcases pick_spec cn lp taken N with ⟨h1, h2⟩ | ⟨b, h1, h2, h3, h4⟩
      · right
        refine ⟨N, by unfold pickF; rw [if_neg hn, h1, if_pos (Or.inl (by omega))], by omega, hc, fun s hs hcs hne => absurd hcs (h2 s (by omega))⟩
      · right
        by_cases hlt : cn b < cn N
        · refine ⟨N, by unfold pickF; rw [if_neg hn, h1, if_pos (Or.inr (by simpa using hlt))], by omega, hc, fun s hs hcs hne => ?_⟩
          by_cases e : s = b
          · subst e; exact Or.inl hlt
          · have := h4 s (by omega) hcs e; omega
        · refine ⟨b, by unfold pickF; rw [if_neg hn, h1, if_neg (by simp; omega)], by omega, h3, fun s hs hcs hne => ?_⟩
          by_cases e : s = N
          · subst e; omega
          · exact h4 s (by omega) hcs hne
    · have hn : cn N = 0 ∨ lp N = false ∨ N ∈ taken := by
        unfold candB at hc
        by_cases h1 : cn N = 0
        · exact Or.inl h1
        · by_cases h2 : lp N = true
          · right; right
            exact Classical.byContradiction fun h3 => hc ⟨h1, h2, h3⟩
          · right; left; simpa using h2
      have e : ∀ b, pickF cn lp taken b N = b := fun b => if_pos hn
      rw [e]
      rcases pick_spec cn lp taken N with ⟨h1, h2⟩ | ⟨b, h1, h2, h3, h4⟩
      · left
        refine ⟨h1, fun s hs => ?_⟩
        by_cases e : s = N
        · subst e; exact hc
        · exact h2 s (by omega)
      · right
        refine ⟨b, h1, by omega, h3, fun s hs hcs hne => ?_⟩
        by_cases e : s = N
        · subst e; exact absurd hcs hc
        · exact h4 s (by omega) hcs hne
/-- The reference takes the leaves in their order. -/
theorem pick_L {cn : Nat → Nat} {lp : Nat → Bool} {N : Nat} {L : List Nat} (hL : IsL lf mine L) (hcn : ∀ l, lp l = true → cn l = cnt lf mine l) (hN : ∀ x ∈ mine, lf x < N) (hlp : ∀ x ∈ mine, lp (lf x) = true)
    {j : Nat} {l : Nat} (hj : L[j]? = some l) : pick cn lp (L.take j) N = l := by
  have hlL : l ∈ L := List.mem_of_getElem? hj
  obtain ⟨x, hx, hxl⟩ := (hL.2 l).1 hlL
  have hcand : ∀ s, s < N → (candB cn lp (L.take j) s ↔ s ∈ L.drop j) := by
    intro s _
    have hsplit : s ∈ L ↔ s ∈ L.take j ∨ s ∈ L.drop j := by rw [← List.mem_append, List.take_append_drop]
    have hnd : s ∈ L.take j → s ∉ L.drop j := by
      have := hL.nodup
      rw [← List.take_append_drop j L, List.nodup_append] at this
      intro h1 h2
      exact this.2.2 s h1 s h2 rfl
    unfold candB
    constructor
    · rintro ⟨h1, h2, h3⟩
      rw [hcn s h2] at h1
      have : s ∈ L := (hL.2 s).2 (by
        unfold cnt group at h1
        have h5 : mine.filter (fun x => decide (lf x = s)) ≠ [] := fun e => h1 (by rw [e]; rfl)
        obtain ⟨y, hy⟩ := List.exists_mem_of_ne_nil _ h5
        simp only [List.mem_filter, decide_eq_true_eq] at hy
        exact ⟨y, hy.1, hy.2⟩)
      exact (hsplit.1 this).resolve_left h3
    · intro h
      obtain ⟨y, hy, hys⟩ := (hL.2 s).1 (hsplit.2 (Or.inr h))
      have hl2 : lp s = true := by rw [← hys]; exact hlp y hy
      refine ⟨?_, hl2, fun h2 => hnd h2 h⟩
      rw [hcn s hl2]
      unfold cnt group
      intro e
      have h3 := List.length_eq_zero_iff.1 e
      have : y ∈ mine.filter (fun x => decide (lf x = s)) := by simp [hy, hys]
      rw [h3] at this; cases this
  have hjl : j < L.length := (List.getElem?_eq_some_iff.1 hj).1
  have hdrop : L.drop j = l :: L.drop (j + 1) := by
    rw [List.drop_eq_getElem_cons hjl]
    have := (List.getElem?_eq_some_iff.1 hj).2
    rw [this]
  have hlN : l < N := by rw [← hxl]; exact hN x hx
  have hlc : candB cn lp (L.take j) l := (hcand l hlN).2 (by rw [hdrop]; simp)
  rcases pick_spec cn lp (L.take j) N with ⟨_, h2⟩ | ⟨b, h1, h2, h3, h4⟩
  · exact absurd hlc (h2 l hlN)
  · rw [h1]
    by_cases e : l = b
    · rw [e]
    · exfalso
      have h5 := h4 l hlN hlc e
      have hbd := (hcand b h2).1 h3
      rw [hdrop] at hbd
      have hbl : b ∈ L.drop (j + 1) := (List.mem_cons.1 hbd).resolve_left (fun h => e h.symm)
      have hp : (L.drop j).Pairwise (bef lf mine) := hL.1.drop
      rw [hdrop, List.pairwise_cons] at hp
      have h6 := hp.1 b hbl
      rw [hcn l hlc.2.1, hcn b h3.2.1] at h5
      unfold bef at h6
      omega
/-- THE NODES THAT ARE CHOSEN of those below the switch. -/
def outV (lf : Int → Nat) (mine : List Int) (n : Nat) : List Int := riseAll (((sortL lf mine).flatMap (group lf mine)).take n)
theorem outV_of {n : Nat} {L : List Nat} (hL : IsL lf mine L) : outV lf mine n = riseAll ((L.flatMap (group lf mine)).take n) := by
  unfold outV; rw [(sortL_isL lf mine).uniq hL]
theorem outV_facts (h : mine.Nodup) {n : Nat} (hn : n ≤ mine.length) : (outV lf mine n).length = n ∧ (outV lf mine n).Pairwise (· < ·) ∧ ∀ x ∈ outV lf mine n, x ∈ mine := by
  have hL := sortL_isL lf mine
  unfold outV
  have hnd : (((sortL lf mine).flatMap (group lf mine)).take n).Nodup := (flatG_nodup h hL.nodup).sublist (List.take_sublist _ _)
  refine ⟨by rw [riseAll_len, List.length_take, flatG_len h hL]; omega, riseAll_rise hnd, fun x hx => ?_⟩
  have := (riseAll_mem hnd x).1 hx
  exact (flatG_perm h hL).mem_iff.1 (List.mem_of_mem_take this)
end
end Go.Proofs.Ytjnfdcojccgfoaa
