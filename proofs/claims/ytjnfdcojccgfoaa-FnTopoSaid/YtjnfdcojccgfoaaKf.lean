/-
  A topology is recovered from its text: plain.
-/
import Derived.Test.YtjnfdcojccgfoaaA15
import Derived.Test.YtjnfdcojccgfoaaA10
namespace Go.Proofs.Ytjnfdcojccgfoaa
set_option linter.unusedSimpArgs false
set_option linter.unusedVariables false
set_option linter.unnecessarySimpa false
open Go.RowKit
theorem parts_of9 {s : ByteArray} {u : UInt8} {ls : List (List UInt8)} (h : splitL u s.data.toList = ls) : parts s u = ls.map fun l => ⟨l.toArray⟩ := by
  rw [← h, ← parts_split, List.map_map]
  have e : ((fun l : List UInt8 => (⟨l.toArray⟩ : ByteArray)) ∘ fun p : ByteArray => p.data.toList) = id := by
    funext p
    cases p
    simp
  rw [e, List.map_id]
theorem split_lines (u : UInt8) : ∀ (ls : List (List UInt8)), (∀ l ∈ ls, u ∉ l) → splitL u (ls.flatMap (fun l => l ++ [u])) = ls ++ [[]]
  | [], _ => rfl
  | l :: r, h => by
    have ih := split_lines u r (fun x hx => h x (by simp [hx]))
    have e : (l :: r).flatMap (fun l => l ++ [u]) = l ++ u :: r.flatMap (fun l => l ++ [u]) := by simp
    rw [e, splitL_cat u l _ (h l (by simp)), ih]; rfl
theorem no_dig (u : UInt8) (hu : dig u = false) (n : Nat) : u ∉ ntxt n := by
  intro h
  have := List.all_eq_true.1 (dig_ntxt n) u h
  rw [hu] at this; cases this
def swI (x : Int) : List UInt8 := [115, 119, 105, 116, 99, 104] ++ 32 :: ntxt x.toNat
def vecI (q : Q) : List UInt8 := ntxt q.a.toNat ++ 47 :: (ntxt q.b.toNat ++ 47 :: ntxt q.c.toNat)
def noI (q : Q) : List UInt8 := [110, 111, 100, 101] ++ 32 :: (ntxt q.t.toNat ++ 32 :: vecI q)
theorem vecI_no (u : UInt8) (hu : dig u = false) (h : u ≠ 47) (q : Q) : u ∉ vecI q := by
  unfold vecI
  simp only [List.mem_append, List.mem_cons, not_or]
  exact ⟨no_dig u hu _, h, no_dig u hu _, h, no_dig u hu _⟩
theorem swI_no (x : Int) : (10 : UInt8) ∉ swI x := by
  unfold swI
  simp only [List.mem_append, List.mem_cons, not_or]
  exact ⟨by decide, by decide, no_dig 10 (by decide) _⟩
theorem noI_no (q : Q) : (10 : UInt8) ∉ noI q := by
  unfold noI
  simp only [List.mem_append, List.mem_cons, not_or]
  exact ⟨by decide, by decide, no_dig 10 (by decide) _, by decide, vecI_no 10 (by decide) (by decide) q⟩
theorem swI_split (x : Int) : splitL 32 (swI x) = [[115, 119, 105, 116, 99, 104], ntxt x.toNat] := by
  unfold swI
  rw [splitL_cat 32 _ _ (by decide), splitL_none 32 _ (no_dig 32 (by decide) _)]
theorem noI_split (q : Q) : splitL 32 (noI q) = [[110, 111, 100, 101], ntxt q.t.toNat, vecI q] := by
  unfold noI
  rw [splitL_cat 32 _ _ (by decide), splitL_cat 32 _ _ (no_dig 32 (by decide) _), splitL_none 32 _ (vecI_no 32 (by decide) (by decide) q)]
def tOk (x : Int) : Prop := 0 ≤ x ∧ x ≤ 1000000000
def qOk (q : Q) : Prop := tOk q.t ∧ vecOkB q.a q.b q.c = true
theorem numB_list (n : Nat) : (⟨(ntxt n).toArray⟩ : ByteArray) = numB n := rfl
theorem tv_text9 {a b c : Int} (h : vecOkB a b c = true) : tvecV (vtxtB a b c) = ⟨a, b, c⟩ := by
  obtain ⟨⟨a0, a1⟩, ⟨b0, b1⟩, ⟨c0, c1⟩⟩ := vecOk_le h
  have hl := vtxt_list h
  have hs : splitL 47 (vtxtB a b c).data.toList = [ntxt a.toNat, ntxt b.toNat, ntxt c.toNat] := by
    rw [hl, splitL_cat _ _ _ (no47 _), splitL_cat _ _ _ (no47 _), splitL_none _ _ (no47 _)]
  have hp := parts_of_list hs
  have ea : (⟨(ntxt a.toNat).toArray⟩ : ByteArray) = txtB a := by rw [txtB_in a0 (by omega)]; rfl
  have eb : (⟨(ntxt b.toNat).toArray⟩ : ByteArray) = txtB b := by rw [txtB_in b0 (by omega)]; rfl
  have ec : (⟨(ntxt c.toNat).toArray⟩ : ByteArray) = txtB c := by rw [txtB_in c0 (by omega)]; rfl
  simp only [List.map_cons, List.map_nil, ea, eb, ec] at hp
  obtain ⟨k1, v1⟩ := tnum_txt a0 (show a ≤ 1000000000 by omega)
  obtain ⟨k2, v2⟩ := tnum_txt b0 (show b ≤ 1000000000 by omega)
  obtain ⟨k3, v3⟩ := tnum_txt c0 (show c ≤ 1000000000 by omega)
  have hi : tvIs (vtxtB a b c) = true := by
    rw [tv_three hp, k1, k2, k3, v1, v2, v3, h]; rfl
  unfold tvecV
  rw [if_pos hi]
  simp [tvA, tvB, tvC, tvAt, hp, v1, v2, v3]
theorem ba_eq {a : ByteArray} {l : List UInt8} (h : a.data.toList = l) : (⟨l.toArray⟩ : ByteArray) = a := by
  cases a; subst h; simp
theorem line_sw {x : Int} (h : tOk x) (t : List Int × List Q) : lineT t ⟨(swI x).toArray⟩ = (t.1 ++ [x], t.2) := by
  have hp : parts ⟨(swI x).toArray⟩ 32 = [swW, txtB x] := by
    rw [parts_of9 (u := 32) (s := ⟨(swI x).toArray⟩) (ls := [[115, 119, 105, 116, 99, 104], ntxt x.toNat]) (by simpa using swI_split x), txtB_in h.1 h.2]
    rfl
  unfold lineT
  rw [hp]
  simp only [if_true]
  rw [(tnum_txt h.1 h.2).2]
theorem line_no {q : Q} (h : qOk q) (t : List Int × List Q) : lineT t ⟨(noI q).toArray⟩ = (t.1, t.2 ++ [q]) := by
  have hv : (⟨(vecI q).toArray⟩ : ByteArray) = vtxtB q.a q.b q.c := ba_eq (vtxt_list h.2)
  have hp : parts ⟨(noI q).toArray⟩ 32 = [noW, txtB q.t, vtxtB q.a q.b q.c] := by
    rw [parts_of9 (u := 32) (s := ⟨(noI q).toArray⟩) (ls := [[110, 111, 100, 101], ntxt q.t.toNat, vecI q]) (by simpa using noI_split q), txtB_in h.1.1 h.1.2, ← hv]
    rfl
  unfold lineT
  rw [hp]
  simp only [if_true]
  rw [(tnum_txt h.1.1 h.1.2).2, tv_text9 h.2]
theorem line_nil (t : List Int × List Q) : lineT t ⟨#[]⟩ = t := by
  have hp : parts ⟨#[]⟩ 32 = [⟨#[]⟩] := by
    rw [parts_of9 (u := 32) (s := ⟨#[]⟩) (ls := [[]]) rfl]; rfl
  unfold lineT
  rw [hp]
theorem fold_sw : ∀ (xs : List Int) (t : List Int × List Q), (∀ x ∈ xs, tOk x) → (xs.map fun x => (⟨(swI x).toArray⟩ : ByteArray)).foldl lineT t = (t.1 ++ xs, t.2)
  | [], t, _ => by simp
  | x :: xs, t, h => by
    rw [List.map_cons, List.foldl_cons, line_sw (h x (by simp)), fold_sw xs _ (fun y hy => h y (by simp [hy]))]
    simp
theorem fold_no : ∀ (xs : List Q) (t : List Int × List Q), (∀ x ∈ xs, qOk x) → (xs.map fun x => (⟨(noI x).toArray⟩ : ByteArray)).foldl lineT t = (t.1, t.2 ++ xs)
  | [], t, _ => by simp
  | x :: xs, t, h => by
    rw [List.map_cons, List.foldl_cons, line_no (h x (by simp)), fold_no xs _ (fun y hy => h y (by simp [hy]))]
    simp
theorem swN_list (p : Int) (r : List Int) (h : ∀ x ∈ r, tOk x) : ∀ k, k ≤ r.length → (swN (p :: r) k).data.toList = ((r.take k).map swI).flatMap (fun l => l ++ [10])
  | 0, _ => rfl
  | k + 1, hk => by
    have ih := swN_list p r h k (by omega)
    have hx : r[k]? = some r[k] := List.getElem?_eq_getElem (by omega)
    have hg : (p :: r).getD (k + 1) 0 = r[k] := by simp [List.getD, hx]
    have ht := h r[k] (List.getElem_mem _)
    have e : r.take (k + 1) = r.take k ++ [r[k]] := by rw [List.take_add_one, hx]; rfl
    rw [swN, hg, e, List.map_append, List.flatMap_append, ← ih]
    unfold swF
    rw [append_list, append_list, append_list, txtB_in ht.1 ht.2]
    show (swN (p :: r) k).data.toList ++ [115, 119, 105, 116, 99, 104, 32] ++ ntxt r[k].toNat ++ [10] = _
    simp [swI]
theorem noN_list (b : ByteArray) (ns : List Q) (h : ∀ x ∈ ns, qOk x) : ∀ k, k ≤ ns.length → (noN b ns k).data.toList = b.data.toList ++ ((ns.take k).map noI).flatMap (fun l => l ++ [10])
  | 0, _ => by simp [noN]
  | k + 1, hk => by
    have ih := noN_list b ns h k (by omega)
    have hx : ns[k]? = some ns[k] := List.getElem?_eq_getElem (by omega)
    have hg : ns.getD k ⟨0, 0, 0, 0⟩ = ns[k] := by simp [List.getD, hx]
    have ht := h ns[k] (List.getElem_mem _)
    have e : ns.take (k + 1) = ns.take k ++ [ns[k]] := by rw [List.take_add_one, hx]; rfl
    rw [noN, hg, e, List.map_append, List.flatMap_append, ← List.append_assoc, ← ih]
    unfold noF
    rw [append_list, append_list, append_list, append_list, append_list, txtB_in ht.1.1 ht.1.2, vtxt_list ht.2]
    show (noN b ns k).data.toList ++ [110, 111, 100, 101, 32] ++ ntxt ns[k].t.toNat ++ [32] ++ vecI ns[k] ++ [10] = _
    simp [noI]
theorem topo_ok9 {ps : List Int} {ns : List Q} (h : topoOkB ps ns = true) : ∃ r, ps = 0 :: r ∧ (∀ x ∈ r, tOk x) ∧ ∀ q ∈ ns, qOk q := by
  obtain ⟨h1, h2, h3, h4, h5, h6, h7⟩ := topo_parts h
  cases ps with
  | nil => simp at h1
  | cons p r =>
    have hp : p = 0 := by simpa using h3
    refine ⟨r, by rw [hp], ?_, ?_⟩
    · intro x hx
      obtain ⟨i, hi, rfl⟩ := List.getElem_of_mem hx
      have hg : (p :: r).getD (i + 1) 0 = r[i] := by simp [List.getD, List.getElem?_eq_getElem hi]
      have h8 := h5 (i + 1) (by omega) (by simp; omega)
      rw [hg] at h8
      simp at h2
      unfold tOk; omega
    · intro q hq
      have h8 := h7 q hq
      unfold nodeOk at h8
      simp only [Bool.and_eq_true, decide_eq_true_eq] at h8
      have h9 := h8.1.1.2
      exact ⟨⟨h8.1.1.1, by omega⟩, h8.2⟩
theorem parse_text {ps : List Int} {ns : List Q} (h : topoOkB ps ns = true) : parseT (topoTxt ps ns) = (ps, ns) := by
  obtain ⟨r, rfl, hr, hq⟩ := topo_ok9 h
  have hl : (topoTxt (0 :: r) ns).data.toList = (r.map swI ++ ns.map noI).flatMap (fun l => l ++ [10]) := by
    unfold topoTxt
    rw [noN_list _ ns hq _ (Nat.le_refl _), List.take_length, List.flatMap_append]
    congr 1
    have := swN_list 0 r hr r.length (Nat.le_refl _)
    rw [List.take_length] at this
    simpa using this
  have hs := split_lines 10 (r.map swI ++ ns.map noI) (by
    intro l hl
    rcases List.mem_append.1 hl with hl | hl
    · obtain ⟨x, _, rfl⟩ := List.mem_map.1 hl; exact swI_no x
    · obtain ⟨x, _, rfl⟩ := List.mem_map.1 hl; exact noI_no x)
  rw [← hl] at hs
  have hp := parts_of9 hs
  unfold parseT parseN
  rw [List.take_length, hp, List.map_append, List.map_append, List.map_map, List.map_map, List.foldl_append, List.foldl_append]
  have e1 := fold_sw r ([0], []) hr
  have e2 := fold_no ns ([0] ++ r, []) hq
  show List.foldl lineT (List.foldl lineT (List.foldl lineT ([0], []) (r.map fun x => (⟨(swI x).toArray⟩ : ByteArray))) (ns.map fun x => (⟨(noI x).toArray⟩ : ByteArray))) [⟨#[]⟩] = _
  rw [e1, e2, List.foldl_cons, List.foldl_nil, line_nil]
  simp
theorem tt_text {ps : List Int} {ns : List Q} (h : topoOkB ps ns = true) : ttB (topoTxt ps ns) = true ∧ ttP (topoTxt ps ns) = ps ∧ ttN (topoTxt ps ns) = ns := by
  have e := parse_text h
  have h1 : ttB (topoTxt ps ns) = true := by unfold ttB; rw [e, h]; simp
  refine ⟨h1, ?_, ?_⟩
  · rw [(tt_yes h1).1, e]
  · rw [(tt_yes h1).2, e]
theorem tt_empty : ttB ⟨#[]⟩ = true ∧ ttP ⟨#[]⟩ = [0] ∧ ttN ⟨#[]⟩ = [] := by
  have e : topoTxt [0] [] = ⟨#[]⟩ := rfl
  have := tt_text (ps := [0]) (ns := []) (by decide)
  rwa [e] at this
end Go.Proofs.Ytjnfdcojccgfoaa
