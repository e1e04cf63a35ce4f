import Derived.Test.YtnphjhbfpoekpaaGreatLr0Pk
namespace Go.Proofs.YtnphjhbfpoekpaaGreat
set_option linter.unusedSimpArgs false
set_option linter.unusedVariables false
set_option linter.unnecessarySimpa false
open Go.RowKit
def ncells : List Rn → List Value → List Value
 | h :: hs, x :: ss => .int .i64 h.j.id :: .int .i64 h.j.pr :: .int .i64 h.j.nn :: .int .i64 h.j.na :: .int .i64 h.j.nb :: .int .i64 h.j.nc :: .int .i64 h.j.la :: .int .i64 h.j.lb :: .int .i64 h.j.lc :: .int .i64 h.j.wl :: .int .i64 h.j.lv :: .int .i64 h.at_ :: x :: ncells hs ss
 | _, _ => []
theorem ncells_len : ∀ {hs : List Rn} {ss : List Value}, hs.length = ss.length → (ncells hs ss).length = hs.length * 13
 | [], [], _ => rfl
 | h :: hs, x :: ss, e => by
  have := ncells_len (hs := hs) (ss := ss) (by simpa using e)
  simp only [ncells, List.length_cons, this]; omega
theorem ncells_cons (a : Rn) (y : Value) (l : List Rn) (m : List Value) : ncells (a :: l) (y :: m) = ncells [a] [y] ++ ncells l m := by simp only [ncells, List.cons_append, List.nil_append]
theorem ncells_app2 : ∀ {hs : List Rn} {ss : List Value} {gs : List Rn} {tt : List Value}, hs.length = ss.length → ncells (hs ++ gs) (ss ++ tt) = ncells hs ss ++ ncells gs tt
 | [], [], _, _, _ => by simp only [List.nil_append, ncells]
 | a :: hs, y :: ss, gs, tt, e => by
  have h := ncells_app2 (hs := hs) (ss := ss) (gs := gs) (tt := tt) (by simpa using e)
  rw [List.cons_append, List.cons_append, ncells_cons, h, ncells_cons a y hs ss, List.append_assoc]
theorem ncells_app {hs : List Rn} {ss : List Value} {h : Rn} {x : Value} (e : hs.length = ss.length) : ncells (hs ++ [h]) (ss ++ [x]) = ncells hs ss ++ [.int .i64 h.j.id, .int .i64 h.j.pr, .int .i64 h.j.nn, .int .i64 h.j.na, .int .i64 h.j.nb, .int .i64 h.j.nc, .int .i64 h.j.la, .int .i64 h.j.lb, .int .i64 h.j.lc, .int .i64 h.j.wl, .int .i64 h.j.lv, .int .i64 h.at_, x] := by
 rw [ncells_app2 e]; simp only [ncells]
theorem ncells_get : ∀ {hs : List Rn} {ss : List Value} {k : Nat} {h : Rn} {x : Value}, hs[k]? = some h → ss[k]? = some x → ∀ i : Nat, i < 13 → (ncells hs ss)[k * 13 + i]? = (ncells [h] [x])[i]?
 | a :: hs, y :: ss, 0, h, x, e1, e2, i, hi => by
  have e3 : a = h := by simpa using e1
  have e4 : y = x := by simpa using e2
  subst e3 e4
  have e := ncells_cons a y hs ss
  rw [e, Nat.zero_mul, Nat.zero_add, List.getElem?_append_left (by rw [ncells_len rfl]; simpa using hi)]
 | a :: hs, y :: ss, k + 1, h, x, e1, e2, i, hi => by
  have h9 := ncells_get (hs := hs) (ss := ss) (k := k) (h := h) (x := x) (by simpa using e1) (by simpa using e2) i hi
  have e := ncells_cons a y hs ss
  have e5 : (ncells [a] [y]).length = 13 := ncells_len rfl
  rw [e, List.getElem?_append_right (by rw [e5]; omega), e5, show (k + 1) * 13 + i - 13 = k * 13 + i by omega, h9]
 | [], _, _, _, _, e1, _, _, _ => by simp at e1
 | _ :: _, [], _, _, _, _, e2, _, _ => by simp at e2
structure OwnN (w : World) (lo : Nat) (v : Value) (n : Nat) (ss : List Value) (hs : List Rn) : Prop where
 own : w.ownsRow lo 136 13 v n (ncells hs ss)
 len : hs.length = n
 slen : ss.length = n
 each : ∀ (k : Nat) x h, ss[k]? = some x → hs[k]? = some h → h.nd.length ≤ 1048576 ∧ w.ownsRow lo 3 1 x h.nd.length (ints h.nd)
 apart : ∀ (i j : Nat) x y, i < j → ss[i]? = some x → ss[j]? = some y → ∀ b, x.ownBlock = some b → y.ownBlock ≠ some b
theorem OwnN.bel {w w' : World} {lo : Nat} {v : Value} {n : Nat} {ss : List Value} {hs : List Rn} (h : OwnN w lo v n ss hs) (hb : Below w.heap.size w w') : OwnN w' lo v n ss hs :=
 ⟨zAe h.own hb, h.len, h.slen, fun k x p a c => ⟨(h.each k x p a c).1, zAe (h.each k x p a c).2 hb⟩, h.apart⟩
theorem OwnN.mono {w : World} {lo lo' : Nat} {v : Value} {n : Nat} {ss : List Value} {hs : List Rn} (h : OwnN w lo v n ss hs) (hl : lo' ≤ lo) : OwnN w lo' v n ss hs :=
 ⟨zAo h.own hl, h.len, h.slen, fun k x p a c => ⟨(h.each k x p a c).1, zAo (h.each k x p a c).2 hl⟩, h.apart⟩
theorem OwnN.nil (w : World) (lo : Nat) : OwnN w lo (.slice none 0 0) 0 [] [] := ⟨own_nil _ _ _ _, rfl, rfl, fun k x p h => by simp at h, fun i j x y _ h => by simp at h⟩
theorem OwnN.fr {S : Nat → Prop} {w w' : World} {lo : Nat} {A : Option Addr} {n c : Nat} {ss : List Value} {hs : List Rn} (h : OwnN w lo (.slice A n c) n ss hs) (hb : Fr S w w') (hn : ∀ b, (atB A b ∨ atX ss n b) → ¬ S b) : OwnN w' lo (.slice A n c) n ss hs :=
 ⟨own_fr h.own hb (fun k hk => hn k (Or.inl (own_atB h.own hk))), h.len, h.slen, fun k x p a q => ⟨(h.each k x p a q).1, own_fr (h.each k x p a q).2 hb (fun b hb2 => hn b (Or.inr ⟨k, x, by have := (List.getElem?_eq_some_iff.1 a).1; have := h.slen; omega, a, hb2⟩))⟩, h.apart⟩
theorem OwnN.rng {w : World} {lo : Nat} {A : Option Addr} {n c : Nat} {ss : List Value} {hs : List Rn} (h : OwnN w lo (.slice A n c) n ss hs) : ∀ b, (atB A b ∨ atX ss n b) → lo ≤ b ∧ b < w.heap.size := by
 rintro b (h1 | ⟨i, x, hi, hx, hb⟩)
 ·exact own_rng h.own b h1
 ·obtain ⟨p, hp⟩ : ∃ p, hs[i]? = some p := ⟨_, zgh (by have := h.len; omega)⟩
  have h2 := (h.each i x p hx hp).2
  exact ⟨own_ge h2 b hb, own_lt h2 b hb⟩
structure RdN (w : World) (A : Option Addr) (n : Nat) (ss : List Value) (hs : List Rn) : Prop where
 len : hs.length = n
 slen : ss.length = n
 rl : ∀ g, A = some ⟨g, 0, none⟩ → g < w.heap.size
 rd : Rd w A n 13 (ncells hs ss)
 each : ∀ (k : Nat) x p, ss[k]? = some x → hs[k]? = some p → ∃ X d, x = .slice X p.nd.length d ∧ p.nd.length ≤ 1048576 ∧ p.nd.length ≤ d ∧ d ≤ 9223372036854775807 ∧ Rd w X p.nd.length 1 (ints p.nd) ∧ ∀ g, X = some ⟨g, 0, none⟩ → g < w.heap.size
theorem RdN.bel {w w' : World} {A : Option Addr} {n : Nat} {ss : List Value} {hs : List Rn} (h : RdN w A n ss hs) (hb : Below w.heap.size w w') : RdN w' A n ss hs :=
 ⟨h.len, h.slen, fun g hg => Nat.lt_of_lt_of_le (h.rl g hg) hb.size, h.rd.below h.rl hb, fun k x p a b => by
  obtain ⟨X, d, h1, h2, h3, h4, h5, h6⟩ := h.each k x p a b
  exact ⟨X, d, h1, h2, h3, h4, h5.below h6 hb, zAm h6 hb⟩⟩
theorem RdN.row {w : World} {A : Option Addr} {n : Nat} {ss : List Value} {hs : List Rn} (h : RdN w A n ss hs) {k : Nat} (hk : k < n) :
  ∃ g p X d, A = some ⟨g, 0, none⟩ ∧ hs[k]? = some p ∧ ss[k]? = some (.slice X p.nd.length d) ∧ p.nd.length ≤ 1048576 ∧ p.nd.length ≤ d ∧ d ≤ 9223372036854775807 ∧ Rd w X p.nd.length 1 (ints p.nd) ∧ (∀ g, X = some ⟨g, 0, none⟩ → g < w.heap.size) ∧ g < w.heap.size ∧
   w.cell? ⟨g, k * 13, none⟩ = some (.int .i64 p.j.id) ∧ w.cell? ⟨g, k * 13 + 1, none⟩ = some (.int .i64 p.j.pr) ∧ w.cell? ⟨g, k * 13 + 2, none⟩ = some (.int .i64 p.j.nn) ∧ w.cell? ⟨g, k * 13 + 3, none⟩ = some (.int .i64 p.j.na) ∧ w.cell? ⟨g, k * 13 + 4, none⟩ = some (.int .i64 p.j.nb) ∧ w.cell? ⟨g, k * 13 + 5, none⟩ = some (.int .i64 p.j.nc) ∧ w.cell? ⟨g, k * 13 + 6, none⟩ = some (.int .i64 p.j.la) ∧ w.cell? ⟨g, k * 13 + 7, none⟩ = some (.int .i64 p.j.lb) ∧ w.cell? ⟨g, k * 13 + 8, none⟩ = some (.int .i64 p.j.lc) ∧ w.cell? ⟨g, k * 13 + 9, none⟩ = some (.int .i64 p.j.wl) ∧ w.cell? ⟨g, k * 13 + 10, none⟩ = some (.int .i64 p.j.lv) ∧ w.cell? ⟨g, k * 13 + 11, none⟩ = some (.int .i64 p.at_) ∧ w.cell? ⟨g, k * 13 + 12, none⟩ = some (.slice X p.nd.length d) := by
 obtain ⟨p, hp⟩ : ∃ p, hs[k]? = some p := ⟨_, zgh (by have := h.len; omega)⟩
 obtain ⟨x, hx⟩ : ∃ x, ss[k]? = some x := ⟨_, zgh (by have := h.slen; omega)⟩
 obtain ⟨X, d, rfl, h2, h3, h4, h5, h6⟩ := h.each k x p hx hp
 obtain ⟨g, hg, hc⟩ := h.rd.2 (by omega)
 have hcc := ncells_get hp hx
 exact ⟨g, p, X, d, hg, hp, hx, h2, h3, h4, h5, h6, h.rl g hg, hc _ _ ((hcc 0 (by omega)).trans rfl), hc _ _ ((hcc 1 (by omega)).trans rfl), hc _ _ ((hcc 2 (by omega)).trans rfl), hc _ _ ((hcc 3 (by omega)).trans rfl), hc _ _ ((hcc 4 (by omega)).trans rfl), hc _ _ ((hcc 5 (by omega)).trans rfl), hc _ _ ((hcc 6 (by omega)).trans rfl), hc _ _ ((hcc 7 (by omega)).trans rfl), hc _ _ ((hcc 8 (by omega)).trans rfl), hc _ _ ((hcc 9 (by omega)).trans rfl), hc _ _ ((hcc 10 (by omega)).trans rfl), hc _ _ ((hcc 11 (by omega)).trans rfl), hc _ _ ((hcc 12 (by omega)).trans rfl)⟩
theorem OwnN.rd {w : World} {lo : Nat} {A : Option Addr} {n c : Nat} {ss : List Value} {hs : List Rn} (h : OwnN w lo (.slice A n c) n ss hs) : RdN w A n ss hs := by
 refine ⟨h.len, h.slen, own_blk h.own, own_rdd' h.own, fun k x p a b => ?_⟩
 obtain ⟨h1, h2⟩ := h.each k x p a b
 obtain ⟨X, d, rfl, -⟩ := zAt h2
 exact ⟨X, d, rfl, h1, (own_cap9 h2).1, (own_cap9 h2).2, own_rdd' h2, own_blk h2⟩
set_option maxHeartbeats 4000000 in
theorem eqRun_any (x0 x1 x2 x3 x4 x5 x6 x7 x8 x9 x10 x11 : Int) (A A' : Option Addr) (n c c' : Nat) (zs : List Int) (w : World) (hn : n ≤ 1048577) (ha : Rd w A n 1 (ints zs)) (hb : Rd w A' n 1 (ints zs)) (hl : ∀ g, A = some ⟨g, 0, none⟩ → g < w.heap.size) (hl2 : ∀ g, A' = some ⟨g, 0, none⟩ → g < w.heap.size) :
  Calls Tryz.prog 170 #[.agg #[.int .i64 x0, .int .i64 x1, .int .i64 x2, .int .i64 x3, .int .i64 x4, .int .i64 x5, .int .i64 x6, .int .i64 x7, .int .i64 x8, .int .i64 x9, .int .i64 x10, .int .i64 x11, .slice A n c], .agg #[.int .i64 x0, .int .i64 x1, .int .i64 x2, .int .i64 x3, .int .i64 x4, .int .i64 x5, .int .i64 x6, .int .i64 x7, .int .i64 x8, .int .i64 x9, .int .i64 x10, .int .i64 x11, .slice A' n c']] w fun e w' => e = .returned (.bool true) ∧ Below w.heap.size w w' := by
 have HN := Lib.hid hn
 have HA := Lib.hid ha
 have HB := Lib.hid hb
 have HL := Lib.hid hl
 have HL2 := Lib.hid hl2
 clear hn ha hb hl hl2
 go_enter Tryz.func170, Tryz.ntmps170
 have B2 : Hid (Below w.heap.size w ((w.alloc (.cells #[.int .i64 x0, .int .i64 x1, .int .i64 x2, .int .i64 x3, .int .i64 x4, .int .i64 x5, .int .i64 x6, .int .i64 x7, .int .i64 x8, .int .i64 x9, .int .i64 x10, .int .i64 x11, .slice A n c] 136)).alloc (.cells #[.int .i64 x0, .int .i64 x1, .int .i64 x2, .int .i64 x3, .int .i64 x4, .int .i64 x5, .int .i64 x6, .int .i64 x7, .int .i64 x8, .int .i64 x9, .int .i64 x10, .int .i64 x11, .slice A' n c'] 136))) := Lib.hid (zAc (zAa _ _) (zAa _ _))
 go_wp2_with fail
 refine (eqJob_any ⟨x0, x1, x2, x3, x4, x5, x6, x7, x8, x9, x10⟩ _).mono ?_
 rintro e w1 ⟨rfl, hb1⟩
 have hs1 := hb1.size
 (try simp at hs1)
 have hy10 : w.heap.size < w1.heap.size := by omega
 have hy11 : w.heap.size + 1 < w1.heap.size := by omega
 have hk10 := fun o => hb1.cell (p := ⟨w.heap.size, o, none⟩) zOm
 have hk11 := fun o => hb1.cell (p := ⟨w.heap.size + 1, o, none⟩) zOm
 have B3 := Lib.hid (zAc B2.out hb1)
 go_wp2_with fail
 refine (eqIntS_any A A' n c c' zs _ HN.out (HA.out.below HL.out B3.out) (HB.out.below HL2.out B3.out)).mono ?_
 rintro e w2 ⟨rfl, k2, hw2⟩
 have B4 := Lib.hid (zAc B3.out (below_eqN hw2))
 clear hw2
 go_wp2
 go_ret
 exact ⟨rfl, B4.out⟩
set_option maxHeartbeats 8000000 in
theorem eqRunS_any (A A' : Option Addr) (n c c' : Nat) (ss ss' : List Value) (hs : List Rn) (w : World) (hn : n ≤ 1048577) (ha : RdN w A n ss hs) (hb : RdN w A' n ss' hs) :
  Calls Tryz.prog 94 #[.slice A n c, .slice A' n c'] w fun e w' => e = .returned (.bool true) ∧ Below w.heap.size w w' := by
 have hm : n ≤ 9223372036854775807 := by omega
 have HN := Lib.hid hn
 have HA := Lib.hid ha
 have HB := Lib.hid hb
 clear hn ha hb
 go_enter Tryz.func94, Tryz.ntmps94
 go_wp2
 go_loopw [5] (fun i wr => ∃ k : Nat, k ≤ n ∧ i = .int .i64 k ∧ Below w.heap.size w wr) (fun i _ => n - (intOf i).toNat)
 case atStart => exact ⟨0, Nat.zero_le _, rfl, Below.refl _ _⟩
 case round =>
  obtain ⟨k, hk, rfl, hbw⟩ := hrel
  obtain ⟨wo, rfl⟩ : ∃ x, x = wr := ⟨wr, rfl⟩
  have HBW := Lib.hid hbw
  by_cases hlt : k < n
  ·have hlt' : (k : Int) < n := by omega
   obtain ⟨g, p, X, d, rfl, hp, hx, hl, l2, l3, ho, hX, hg, c0, c1, c2, c3, c4, c5, c6, c7, c8, c9, c10, c11, c12⟩ := (HA.out.bel hbw).row hlt
   obtain ⟨g', p', X', d', rfl, hp', hx', hl', l2', l3', ho', hX', hg', c0', c1', c2', c3', c4', c5', c6', c7', c8', c9', c10', c11', c12'⟩ := (HB.out.bel hbw).row hlt
   rw [hp] at hp'
   obtain rfl := Option.some.inj hp'
   have O1 := Lib.hid ho
   have O2 := Lib.hid ho'
   have L1 := Lib.hid hX
   have L2 := Lib.hid hX'
   clear hp hp' hx hx' ho ho' hbw hl' hX hX' l2 l3 l2' l3'
   go_wp2_with fail
   go_region_held3 (fun w' => w'.cell? ⟨g, k * 13, none⟩ = some (.int .i64 p.j.id) ∧ w'.cell? ⟨g, k * 13 + 1, none⟩ = some (.int .i64 p.j.pr) ∧ w'.cell? ⟨g, k * 13 + 2, none⟩ = some (.int .i64 p.j.nn) ∧ w'.cell? ⟨g, k * 13 + 3, none⟩ = some (.int .i64 p.j.na) ∧ w'.cell? ⟨g, k * 13 + 4, none⟩ = some (.int .i64 p.j.nb) ∧ w'.cell? ⟨g, k * 13 + 5, none⟩ = some (.int .i64 p.j.nc) ∧ w'.cell? ⟨g, k * 13 + 6, none⟩ = some (.int .i64 p.j.la) ∧ w'.cell? ⟨g, k * 13 + 7, none⟩ = some (.int .i64 p.j.lb) ∧ w'.cell? ⟨g, k * 13 + 8, none⟩ = some (.int .i64 p.j.lc) ∧ w'.cell? ⟨g, k * 13 + 9, none⟩ = some (.int .i64 p.j.wl) ∧ w'.cell? ⟨g, k * 13 + 10, none⟩ = some (.int .i64 p.j.lv) ∧ w'.cell? ⟨g, k * 13 + 11, none⟩ = some (.int .i64 p.at_) ∧ w'.cell? ⟨g, k * 13 + 12, none⟩ = some (.slice X p.nd.length d) ∧ w'.cell? ⟨g', k * 13, none⟩ = some (.int .i64 p.j.id) ∧ w'.cell? ⟨g', k * 13 + 1, none⟩ = some (.int .i64 p.j.pr) ∧ w'.cell? ⟨g', k * 13 + 2, none⟩ = some (.int .i64 p.j.nn) ∧ w'.cell? ⟨g', k * 13 + 3, none⟩ = some (.int .i64 p.j.na) ∧ w'.cell? ⟨g', k * 13 + 4, none⟩ = some (.int .i64 p.j.nb) ∧ w'.cell? ⟨g', k * 13 + 5, none⟩ = some (.int .i64 p.j.nc) ∧ w'.cell? ⟨g', k * 13 + 6, none⟩ = some (.int .i64 p.j.la) ∧ w'.cell? ⟨g', k * 13 + 7, none⟩ = some (.int .i64 p.j.lb) ∧ w'.cell? ⟨g', k * 13 + 8, none⟩ = some (.int .i64 p.j.lc) ∧ w'.cell? ⟨g', k * 13 + 9, none⟩ = some (.int .i64 p.j.wl) ∧ w'.cell? ⟨g', k * 13 + 10, none⟩ = some (.int .i64 p.j.lv) ∧ w'.cell? ⟨g', k * 13 + 11, none⟩ = some (.int .i64 p.at_) ∧ w'.cell? ⟨g', k * 13 + 12, none⟩ = some ((.slice X' p.nd.length d'))) (simp [go_sem, *, World.cell?_alloc_some, World.cell?_setCell_far, Nat.lt_add_right, Nat.ne_of_gt]) (first | (go_at_call 170; refine (eqRun_any p.j.id p.j.pr p.j.nn p.j.na p.j.nb p.j.nc p.j.la p.j.lb p.j.lc p.j.wl p.j.lv p.at_ X X' p.nd.length d d' p.nd _ (by omega) (O1.out.below L1.out ((Below.refl _ wo).drew)) (O2.out.below L2.out ((Below.refl _ wo).drew)) (zAm L1.out ((Below.refl _ wo).drew)) (zAm L2.out ((Below.refl _ wo).drew))).mono ?_; rintro e w9 ⟨rfl, hb9⟩; have hs9 := hb9.size; (try simp at hs9); have q0 := fun o => hb9.cell (p := ⟨g, o, none⟩) zOm; have q1 := fun o => hb9.cell (p := ⟨g', o, none⟩) zOm))
   have B9 := Lib.hid (zAc HBW.out (show Below wo.heap.size wo w9 from zAc ((Below.refl wo.heap.size wo).drew) hb9))
   clear hb9 q0 q1 hs9
   go_wp2
   exact ⟨⟨k + 1, by omega, by go_num, B9.out⟩, by simp [intOf]; omega⟩
  ·have hlt' : ¬ (k : Int) < n := by omega
   go_wp2
   go_ret
   exact ⟨rfl, hbw⟩
def RdNI (w : World) (A : Option Addr) (n : Nat) (hs : List Rn) : Prop :=
 hs.length = n ∧ (∀ p ∈ hs, p.nd.length ≤ maxLen) ∧ (0 < n → ∃ b off, A = some ⟨b, off, none⟩ ∧ b < w.heap.size ∧ ∀ (k : Nat) p, hs[k]? = some p → ∃ B c, (w.cell? ⟨b, off + k * 13, none⟩ = some (.int .i64 p.j.id) ∧ w.cell? ⟨b, off + k * 13 + 1, none⟩ = some (.int .i64 p.j.pr) ∧ w.cell? ⟨b, off + k * 13 + 2, none⟩ = some (.int .i64 p.j.nn) ∧ w.cell? ⟨b, off + k * 13 + 3, none⟩ = some (.int .i64 p.j.na) ∧ w.cell? ⟨b, off + k * 13 + 4, none⟩ = some (.int .i64 p.j.nb) ∧ w.cell? ⟨b, off + k * 13 + 5, none⟩ = some (.int .i64 p.j.nc) ∧ w.cell? ⟨b, off + k * 13 + 6, none⟩ = some (.int .i64 p.j.la) ∧ w.cell? ⟨b, off + k * 13 + 7, none⟩ = some (.int .i64 p.j.lb) ∧ w.cell? ⟨b, off + k * 13 + 8, none⟩ = some (.int .i64 p.j.lc) ∧ w.cell? ⟨b, off + k * 13 + 9, none⟩ = some (.int .i64 p.j.wl) ∧ w.cell? ⟨b, off + k * 13 + 10, none⟩ = some (.int .i64 p.j.lv) ∧ w.cell? ⟨b, off + k * 13 + 11, none⟩ = some (.int .i64 p.at_) ∧ w.cell? ⟨b, off + k * 13 + 12, none⟩ = some (.slice B p.nd.length c)) ∧ RdI w B p.nd.length p.nd)
theorem RdNI.below {w w' : World} {A : Option Addr} {n : Nat} {hs : List Rn} (h : RdNI w A n hs) (hb : Below w.heap.size w w') : RdNI w' A n hs :=
 ⟨h.1, h.2.1, fun hn => by
  obtain ⟨b, off, rfl, hl, hc⟩ := h.2.2 hn
  exact ⟨b, off, rfl, Nat.lt_of_lt_of_le hl hb.size, fun k p hp => by
   obtain ⟨B, c, ⟨h0, h1, h2, h3, h4, h5, h6, h7, h8, h9, h10, h11, h12⟩, hI⟩ := hc k p hp
   exact ⟨B, c, ⟨(hb.cell (p := ⟨b, _, none⟩) hl).trans h0, (hb.cell (p := ⟨b, _, none⟩) hl).trans h1, (hb.cell (p := ⟨b, _, none⟩) hl).trans h2, (hb.cell (p := ⟨b, _, none⟩) hl).trans h3, (hb.cell (p := ⟨b, _, none⟩) hl).trans h4, (hb.cell (p := ⟨b, _, none⟩) hl).trans h5, (hb.cell (p := ⟨b, _, none⟩) hl).trans h6, (hb.cell (p := ⟨b, _, none⟩) hl).trans h7, (hb.cell (p := ⟨b, _, none⟩) hl).trans h8, (hb.cell (p := ⟨b, _, none⟩) hl).trans h9, (hb.cell (p := ⟨b, _, none⟩) hl).trans h10, (hb.cell (p := ⟨b, _, none⟩) hl).trans h11, (hb.cell (p := ⟨b, _, none⟩) hl).trans h12⟩, hI.below hb⟩⟩⟩
theorem infoNR : (Tryz.prog.info? 136).map (fun i => (i.zero, i.size, i.bytes)) = some (some (.agg #[.int .i64 0, .int .i64 0, .int .i64 0, .int .i64 0, .int .i64 0, .int .i64 0, .int .i64 0, .int .i64 0, .int .i64 0, .int .i64 0, .int .i64 0, .int .i64 0, .slice none 0 0]), 13, 120) := by kernel_rfl
set_option maxHeartbeats 1000000 in
theorem szRun_any (x0 x1 x2 x3 x4 x5 x6 x7 x8 x9 x10 x11 : Int) (A : Option Addr) (n c : Nat) (left : Int) (w : World) (h0 : 0 ≤ left) (h1 : left ≤ 1048576) (hn : n ≤ maxLen) :
  Calls Tryz.prog 158 #[.agg #[.int .i64 x0, .int .i64 x1, .int .i64 x2, .int .i64 x3, .int .i64 x4, .int .i64 x5, .int .i64 x6, .int .i64 x7, .int .i64 x8, .int .i64 x9, .int .i64 x10, .int .i64 x11, .slice A n c], .int .i64 left] w fun e w' => e = .returned (.int .i64 (szOf left n)) ∧ Below w.heap.size w w' := by
 have HN := Lib.hid hn
 obtain ⟨z, hz⟩ : ∃ z, z = szOf left n := ⟨_, rfl⟩
 have hz1 : z ≤ 1048576 ∧ (z < 0 → z = -1) := by rw [hz]; unfold szOf; split <;> omega
 have HZ := Lib.hid hz
 clear hn hz
 go_enter Tryz.func158, Tryz.ntmps158
 go_wp2_with fail
 refine (szIntS_any A n c left _ h0 (by omega) HN.out).mono ?_
 rintro e w1 ⟨rfl, rfl⟩
 rw [← HZ.out]
 by_cases hz0 : z < 0
 ·have hz2 := hz1.2 hz0
  go_wp2
  go_ret
  exact ⟨ret_int (hz2.symm.trans HZ.out), zBe⟩
 ·go_wp2
  go_ret
  exact ⟨ret_int HZ.out, zBe⟩
set_option maxHeartbeats 2000000 in
theorem szRunS_any (A : Option Addr) (n c : Nat) (left : Int) (hs : List Rn) (w : World) (h0 : 0 ≤ left) (h1 : left ≤ 1048576) (hn : n ≤ maxLen) (hr : RdNI w A n hs) :
  Calls Tryz.prog 82 #[.slice A n c, .int .i64 left] w fun e w' => ∃ z : Int, e = .returned (.int .i64 z) ∧ -1 ≤ z ∧ z ≤ left ∧ (0 ≤ z → (n : Int) ≤ left ∧ ∀ p ∈ hs, p.nd.length ≤ 1048576) ∧ Below w.heap.size w w' := by
 have hml : n ≤ 9223372036854775807 := by unfold maxLen at hn; omega
 have H0 := Lib.hid h0
 have H1 := Lib.hid h1
 have HR := Lib.hid hr
 have hlr : left - n ≤ 9223372036854775807 := by omega
 have hlr2 : -9223372036854775808 ≤ left - n := by omega
 by_cases h : (n : Int) ≤ left
 ·have h' : ¬ (left - n < 0) := by omega
  have HH := Lib.hid h
  clear h0 h1 hn hr h
  go_enter Tryz.func82, Tryz.ntmps82
  go_wp2
  go_loopw [1, 5] (fun q i wr => ∃ (k : Nat) (z : Int), k ≤ n ∧ i = .int .i64 k ∧ q = .int .i64 z ∧ 0 ≤ z ∧ z ≤ left ∧ Below w.heap.size w wr ∧ Hid (∀ j p, j < k → hs[j]? = some p → p.nd.length ≤ 1048576)) (fun _ i _ => n - (intOf i).toNat)
  case atStart => exact ⟨0, left - n, Nat.zero_le _, rfl, rfl, by omega, by omega, Below.refl _ _, Lib.hid (fun j ps hj => absurd hj (by omega))⟩
  case round =>
   obtain ⟨k, z, hk, rfl, rfl, hz0, hz1, hbw, hall⟩ := hrel
   by_cases hlt : k < n
   ·obtain ⟨b, off, rfl, hbl, hc⟩ := HR.out.2.2 (by omega)
    have hl : k < hs.length := by have := HR.out.1; omega
    have hq : hs[k]? = some hs[k] := zgh hl
    have hle : hs[k].nd.length ≤ maxLen := HR.out.2.1 _ (List.getElem_mem hl)
    generalize hs[k] = p at hq hle
    obtain ⟨B, c', ⟨d0, d1, d2, d3, d4, d5, d6, d7, d8, d9, d10, d11, d12⟩, hre⟩ := hc k p hq
    have c0 := (hbw.cell (p := ⟨b, off + k * 13, none⟩) hbl).trans d0
    have c1 := (hbw.cell (p := ⟨b, off + k * 13 + 1, none⟩) hbl).trans d1
    have c2 := (hbw.cell (p := ⟨b, off + k * 13 + 2, none⟩) hbl).trans d2
    have c3 := (hbw.cell (p := ⟨b, off + k * 13 + 3, none⟩) hbl).trans d3
    have c4 := (hbw.cell (p := ⟨b, off + k * 13 + 4, none⟩) hbl).trans d4
    have c5 := (hbw.cell (p := ⟨b, off + k * 13 + 5, none⟩) hbl).trans d5
    have c6 := (hbw.cell (p := ⟨b, off + k * 13 + 6, none⟩) hbl).trans d6
    have c7 := (hbw.cell (p := ⟨b, off + k * 13 + 7, none⟩) hbl).trans d7
    have c8 := (hbw.cell (p := ⟨b, off + k * 13 + 8, none⟩) hbl).trans d8
    have c9 := (hbw.cell (p := ⟨b, off + k * 13 + 9, none⟩) hbl).trans d9
    have c10 := (hbw.cell (p := ⟨b, off + k * 13 + 10, none⟩) hbl).trans d10
    have c11 := (hbw.cell (p := ⟨b, off + k * 13 + 11, none⟩) hbl).trans d11
    have c12 := (hbw.cell (p := ⟨b, off + k * 13 + 12, none⟩) hbl).trans d12
    have HQ := Lib.hid hq
    have HLE := Lib.hid hle
    have HB := Lib.hid hbw
    have HZ0 := Lib.hid hz0
    have HZ1 := Lib.hid hz1
    clear hc d0 d1 d2 d3 d4 d5 d6 d7 d8 d9 d10 d11 d12 hq hle hre hbw
    have hlt' : (k : Int) < n := by omega
    by_cases hs9 : 0 ≤ szOf z p.nd.length
    ·obtain ⟨hs1, hs2⟩ := szOf_pos hs9
     have hs3 : ¬ (szOf z p.nd.length < 0) := by omega
     have HS := Lib.hid hs2
     have HS1 := Lib.hid hs1
     have HS0 := Lib.hid hs9
     clear hs9 hs1 hs2 hz0 hz1
     go_wp2_with fail
     refine (szRun_any _ _ _ _ _ _ _ _ _ _ _ _ B p.nd.length c' z _ HZ0.out (by have := HZ1.out; have := H1.out; omega) HLE.out).mono ?_
     rintro e w1 ⟨rfl, hb1⟩
     generalize hsg : szOf z p.nd.length = z' at *
     go_wp2
     refine ⟨⟨k + 1, z', by omega, by go_num, rfl, HS0.out, ?_, zBe, Lib.hid (fun j ps' hj hps => ?_)⟩, by simp [intOf]; omega⟩
     ·have := HS.out; have := HZ1.out; omega
     ·rcases Nat.lt_or_ge j k with h | h
      ·exact hall.out j ps' h hps
      ·have : j = k := by omega
       rw [this, HQ.out] at hps
       injection hps with hps
       rw [← hps]
       have := HS1.out; have := HZ1.out; have := H1.out; omega
    ·have hs2 := szOf_neg hs9
     have HS := Lib.hid hs2
     clear hs9 hs2 hz0 hz1
     go_wp2_with fail
     refine (szRun_any _ _ _ _ _ _ _ _ _ _ _ _ B p.nd.length c' z _ HZ0.out (by have := HZ1.out; have := H1.out; omega) HLE.out).mono ?_
     rintro e w1 ⟨rfl, hb1⟩
     rw [HS.out]
     go_wp2
     go_ret
     exact ⟨_, rfl, by omega, by have := H0.out; omega, fun h => absurd h (by omega), zBe⟩
   ·have hk9 : k = n := by omega
    subst hk9
    go_wp2
    go_ret
    refine ⟨_, rfl, by omega, hz1, fun _ => ⟨?_, fun p hp => ?_⟩, hbw⟩
    ·have := HH.out; have := H1.out; omega
    ·obtain ⟨j, hj, rfl⟩ := List.getElem_of_mem hp
     exact hall.out j _ (by have := HR.out.1; omega) (zgh hj)
 ·have h' : left - n < 0 := by omega
  clear h1 h0 hr h
  go_enter Tryz.func82, Tryz.ntmps82
  go_wp2
  go_ret
  exact ⟨_, rfl, by omega, by have := H0.out; omega, fun h => absurd h (by omega), Below.refl _ _⟩
set_option maxHeartbeats 4000000 in
set_option maxRecDepth 20000 in
theorem toRun_any (x0 x1 x2 x3 x4 x5 x6 x7 x8 x9 x10 x11 : Int) (A : Option Addr) (n c : Nat) (zs : List Int) (w : World) (hn : n ≤ 1048576) (hr : RdI w A n zs) :
  Calls Tryz.prog 163 #[.agg #[.int .i64 x0, .int .i64 x1, .int .i64 x2, .int .i64 x3, .int .i64 x4, .int .i64 x5, .int .i64 x6, .int .i64 x7, .int .i64 x8, .int .i64 x9, .int .i64 x10, .int .i64 x11, .slice A n c]] w fun e w' => ∃ v, e = .returned (.agg #[.int .i64 x0, .int .i64 x1, .int .i64 x2, .int .i64 x3, .int .i64 x4, .int .i64 x5, .int .i64 x6, .int .i64 x7, .int .i64 x8, .int .i64 x9, .int .i64 x10, .int .i64 x11, v]) ∧ w'.ownsRow w.heap.size 3 1 v n (ints zs) ∧ Below w.heap.size w w' := by
 have HN := Lib.hid hn
 have HR := Lib.hid hr
 clear hn hr
 have BE : Below w.heap.size w (((w.alloc (.cells #[.int .i64 x0, .int .i64 x1, .int .i64 x2, .int .i64 x3, .int .i64 x4, .int .i64 x5, .int .i64 x6, .int .i64 x7, .int .i64 x8, .int .i64 x9, .int .i64 x10, .int .i64 x11, .slice A n c] 194)).alloc (.cells #[.int .i64 0, .int .i64 0, .int .i64 0, .int .i64 0, .int .i64 0, .int .i64 0, .int .i64 0, .int .i64 0, .int .i64 0, .int .i64 0, .int .i64 0, .int .i64 0, .slice none 0 0] 136)).alloc (.cells #[.int .i64 0, .int .i64 0, .int .i64 0, .int .i64 0, .int .i64 0, .int .i64 0, .int .i64 0, .int .i64 0, .int .i64 0, .int .i64 0, .int .i64 0, .int .i64 0, .slice none 0 0] 136)) := zAc (zAc (zAa _ _) (zAa _ _)) (zAa _ _)
 have XP0 : Hid (BX w (((w.alloc (.cells #[.int .i64 x0, .int .i64 x1, .int .i64 x2, .int .i64 x3, .int .i64 x4, .int .i64 x5, .int .i64 x6, .int .i64 x7, .int .i64 x8, .int .i64 x9, .int .i64 x10, .int .i64 x11, .slice A n c] 194)).alloc (.cells #[.int .i64 0, .int .i64 0, .int .i64 0, .int .i64 0, .int .i64 0, .int .i64 0, .int .i64 0, .int .i64 0, .int .i64 0, .int .i64 0, .int .i64 0, .int .i64 0, .slice none 0 0] 136)).alloc (.cells #[.int .i64 0, .int .i64 0, .int .i64 0, .int .i64 0, .int .i64 0, .int .i64 0, .int .i64 0, .int .i64 0, .int .i64 0, .int .i64 0, .int .i64 0, .int .i64 0, .slice none 0 0] 136)) (w.heap.size) 194 [.int .i64 x0, .int .i64 x1, .int .i64 x2, .int .i64 x3, .int .i64 x4, .int .i64 x5, .int .i64 x6, .int .i64 x7, .int .i64 x8, .int .i64 x9, .int .i64 x10, .int .i64 x11, .slice A n c]) := Lib.hid ⟨zAu (zAu (zAp _ rfl) _) _, BE, Nat.le_refl _⟩
 have XR0 : Hid (BX w (((w.alloc (.cells #[.int .i64 x0, .int .i64 x1, .int .i64 x2, .int .i64 x3, .int .i64 x4, .int .i64 x5, .int .i64 x6, .int .i64 x7, .int .i64 x8, .int .i64 x9, .int .i64 x10, .int .i64 x11, .slice A n c] 194)).alloc (.cells #[.int .i64 0, .int .i64 0, .int .i64 0, .int .i64 0, .int .i64 0, .int .i64 0, .int .i64 0, .int .i64 0, .int .i64 0, .int .i64 0, .int .i64 0, .int .i64 0, .slice none 0 0] 136)).alloc (.cells #[.int .i64 0, .int .i64 0, .int .i64 0, .int .i64 0, .int .i64 0, .int .i64 0, .int .i64 0, .int .i64 0, .int .i64 0, .int .i64 0, .int .i64 0, .int .i64 0, .slice none 0 0] 136)) (w.heap.size + 1) 136 [.int .i64 0, .int .i64 0, .int .i64 0, .int .i64 0, .int .i64 0, .int .i64 0, .int .i64 0, .int .i64 0, .int .i64 0, .int .i64 0, .int .i64 0, .int .i64 0, .slice none 0 0]) := Lib.hid ⟨zAu (zAp _ (by simp)) _, BE, by omega⟩
 have XO0 : Hid (BX w (((w.alloc (.cells #[.int .i64 x0, .int .i64 x1, .int .i64 x2, .int .i64 x3, .int .i64 x4, .int .i64 x5, .int .i64 x6, .int .i64 x7, .int .i64 x8, .int .i64 x9, .int .i64 x10, .int .i64 x11, .slice A n c] 194)).alloc (.cells #[.int .i64 0, .int .i64 0, .int .i64 0, .int .i64 0, .int .i64 0, .int .i64 0, .int .i64 0, .int .i64 0, .int .i64 0, .int .i64 0, .int .i64 0, .int .i64 0, .slice none 0 0] 136)).alloc (.cells #[.int .i64 0, .int .i64 0, .int .i64 0, .int .i64 0, .int .i64 0, .int .i64 0, .int .i64 0, .int .i64 0, .int .i64 0, .int .i64 0, .int .i64 0, .int .i64 0, .slice none 0 0] 136)) (w.heap.size + 1 + 1) 136 [.int .i64 0, .int .i64 0, .int .i64 0, .int .i64 0, .int .i64 0, .int .i64 0, .int .i64 0, .int .i64 0, .int .i64 0, .int .i64 0, .int .i64 0, .int .i64 0, .slice none 0 0]) := Lib.hid ⟨zAp _ (by simp), BE, by omega⟩
 clear BE
 go_enter Tryz.func163, Tryz.ntmps163
 go_upto_region 2 with fail
 generalize ((w.alloc (.cells #[.int .i64 x0, .int .i64 x1, .int .i64 x2, .int .i64 x3, .int .i64 x4, .int .i64 x5, .int .i64 x6, .int .i64 x7, .int .i64 x8, .int .i64 x9, .int .i64 x10, .int .i64 x11, .slice A n c] 194)).alloc (.cells #[.int .i64 0, .int .i64 0, .int .i64 0, .int .i64 0, .int .i64 0, .int .i64 0, .int .i64 0, .int .i64 0, .int .i64 0, .int .i64 0, .int .i64 0, .int .i64 0, .slice none 0 0] 136)).alloc (.cells #[.int .i64 0, .int .i64 0, .int .i64 0, .int .i64 0, .int .i64 0, .int .i64 0, .int .i64 0, .int .i64 0, .int .i64 0, .int .i64 0, .int .i64 0, .int .i64 0, .slice none 0 0] 136) = w0 at *
 have k0 := zAb XP0.out.bx 0 rfl
 have k1 := zAb XP0.out.bx 1 rfl
 have k2 := zAb XP0.out.bx 2 rfl
 have k3 := zAb XP0.out.bx 3 rfl
 have k4 := zAb XP0.out.bx 4 rfl
 have k5 := zAb XP0.out.bx 5 rfl
 have k6 := zAb XP0.out.bx 6 rfl
 have k7 := zAb XP0.out.bx 7 rfl
 have k8 := zAb XP0.out.bx 8 rfl
 have k9 := zAb XP0.out.bx 9 rfl
 have k10 := zAb XP0.out.bx 10 rfl
 have kf := zAh XP0.out.bx
 have kl := zAf XP0.out.bx
 simp only [zgc, zga, zgb] at k0 k1 k2 k3 k4 k5 k6 k7 k8 k9 k10
 go_wp2_with fail
 refine (toJob_any ⟨x0, x1, x2, x3, x4, x5, x6, x7, x8, x9, x10⟩ _).mono ?_
 rintro e w1 ⟨rfl, hb1⟩
 have XP1 := Lib.hid (XP0.out.step hb1)
 have XR1 := Lib.hid (XR0.out.step hb1)
 have XO1 := Lib.hid (XO0.out.step hb1)
 clear hb1 k0 k1 k2 k3 k4 k5 k6 k7 k8 k9 k10 kf kl XP0 XR0 XO0
 have o0 := zAb XO1.out.bx 0 rfl
 have o1 := zAb XO1.out.bx 1 rfl
 have o2 := zAb XO1.out.bx 2 rfl
 have o3 := zAb XO1.out.bx 3 rfl
 have o4 := zAb XO1.out.bx 4 rfl
 have o5 := zAb XO1.out.bx 5 rfl
 have o6 := zAb XO1.out.bx 6 rfl
 have o7 := zAb XO1.out.bx 7 rfl
 have o8 := zAb XO1.out.bx 8 rfl
 have o9 := zAb XO1.out.bx 9 rfl
 have o10 := zAb XO1.out.bx 10 rfl
 have of := zAh XO1.out.bx
 have ol := zAf XO1.out.bx
 simp only [zgc, zga, zgb] at o0 o1 o2 o3 o4 o5 o6 o7 o8 o9 o10
 have XO2 : Hid (BX w (((((((((((w1.setCell ⟨w.heap.size + 1 + 1, 0, none⟩ (.int .i64 x0)).setCell ⟨w.heap.size + 1 + 1, 1, none⟩ (.int .i64 x1)).setCell ⟨w.heap.size + 1 + 1, 2, none⟩ (.int .i64 x2)).setCell ⟨w.heap.size + 1 + 1, 3, none⟩ (.int .i64 x3)).setCell ⟨w.heap.size + 1 + 1, 4, none⟩ (.int .i64 x4)).setCell ⟨w.heap.size + 1 + 1, 5, none⟩ (.int .i64 x5)).setCell ⟨w.heap.size + 1 + 1, 6, none⟩ (.int .i64 x6)).setCell ⟨w.heap.size + 1 + 1, 7, none⟩ (.int .i64 x7)).setCell ⟨w.heap.size + 1 + 1, 8, none⟩ (.int .i64 x8)).setCell ⟨w.heap.size + 1 + 1, 9, none⟩ (.int .i64 x9)).setCell ⟨w.heap.size + 1 + 1, 10, none⟩ (.int .i64 x10)) (w.heap.size + 1 + 1) 136 [.int .i64 x0, .int .i64 x1, .int .i64 x2, .int .i64 x3, .int .i64 x4, .int .i64 x5, .int .i64 x6, .int .i64 x7, .int .i64 x8, .int .i64 x9, .int .i64 x10, .int .i64 0, .slice none 0 0]) := Lib.hid (XO1.out.sets [.int .i64 x0, .int .i64 x1, .int .i64 x2, .int .i64 x3, .int .i64 x4, .int .i64 x5, .int .i64 x6, .int .i64 x7, .int .i64 x8, .int .i64 x9, .int .i64 x10] 0)
 have XP2 : Hid (BX w (((((((((((w1.setCell ⟨w.heap.size + 1 + 1, 0, none⟩ (.int .i64 x0)).setCell ⟨w.heap.size + 1 + 1, 1, none⟩ (.int .i64 x1)).setCell ⟨w.heap.size + 1 + 1, 2, none⟩ (.int .i64 x2)).setCell ⟨w.heap.size + 1 + 1, 3, none⟩ (.int .i64 x3)).setCell ⟨w.heap.size + 1 + 1, 4, none⟩ (.int .i64 x4)).setCell ⟨w.heap.size + 1 + 1, 5, none⟩ (.int .i64 x5)).setCell ⟨w.heap.size + 1 + 1, 6, none⟩ (.int .i64 x6)).setCell ⟨w.heap.size + 1 + 1, 7, none⟩ (.int .i64 x7)).setCell ⟨w.heap.size + 1 + 1, 8, none⟩ (.int .i64 x8)).setCell ⟨w.heap.size + 1 + 1, 9, none⟩ (.int .i64 x9)).setCell ⟨w.heap.size + 1 + 1, 10, none⟩ (.int .i64 x10)) (w.heap.size) 194 [.int .i64 x0, .int .i64 x1, .int .i64 x2, .int .i64 x3, .int .i64 x4, .int .i64 x5, .int .i64 x6, .int .i64 x7, .int .i64 x8, .int .i64 x9, .int .i64 x10, .int .i64 x11, .slice A n c]) := Lib.hid (XP1.out.fars (b' := w.heap.size + 1 + 1) (by omega) (by omega) [.int .i64 x0, .int .i64 x1, .int .i64 x2, .int .i64 x3, .int .i64 x4, .int .i64 x5, .int .i64 x6, .int .i64 x7, .int .i64 x8, .int .i64 x9, .int .i64 x10] 0)
 have XR2 : Hid (BX w (((((((((((w1.setCell ⟨w.heap.size + 1 + 1, 0, none⟩ (.int .i64 x0)).setCell ⟨w.heap.size + 1 + 1, 1, none⟩ (.int .i64 x1)).setCell ⟨w.heap.size + 1 + 1, 2, none⟩ (.int .i64 x2)).setCell ⟨w.heap.size + 1 + 1, 3, none⟩ (.int .i64 x3)).setCell ⟨w.heap.size + 1 + 1, 4, none⟩ (.int .i64 x4)).setCell ⟨w.heap.size + 1 + 1, 5, none⟩ (.int .i64 x5)).setCell ⟨w.heap.size + 1 + 1, 6, none⟩ (.int .i64 x6)).setCell ⟨w.heap.size + 1 + 1, 7, none⟩ (.int .i64 x7)).setCell ⟨w.heap.size + 1 + 1, 8, none⟩ (.int .i64 x8)).setCell ⟨w.heap.size + 1 + 1, 9, none⟩ (.int .i64 x9)).setCell ⟨w.heap.size + 1 + 1, 10, none⟩ (.int .i64 x10)) (w.heap.size + 1) 136 [.int .i64 0, .int .i64 0, .int .i64 0, .int .i64 0, .int .i64 0, .int .i64 0, .int .i64 0, .int .i64 0, .int .i64 0, .int .i64 0, .int .i64 0, .int .i64 0, .slice none 0 0]) := Lib.hid (XR1.out.fars (b' := w.heap.size + 1 + 1) (by omega) (by omega) [.int .i64 x0, .int .i64 x1, .int .i64 x2, .int .i64 x3, .int .i64 x4, .int .i64 x5, .int .i64 x6, .int .i64 x7, .int .i64 x8, .int .i64 x9, .int .i64 x10] 0)
 clear XP1 XR1 XO1
 go_upto_region 3 with fail
 clear o0 o1 o2 o3 o4 o5 o6 o7 o8 o9 o10 of ol
 generalize ((((((((((w1.setCell ⟨w.heap.size + 1 + 1, 0, none⟩ (.int .i64 x0)).setCell ⟨w.heap.size + 1 + 1, 1, none⟩ (.int .i64 x1)).setCell ⟨w.heap.size + 1 + 1, 2, none⟩ (.int .i64 x2)).setCell ⟨w.heap.size + 1 + 1, 3, none⟩ (.int .i64 x3)).setCell ⟨w.heap.size + 1 + 1, 4, none⟩ (.int .i64 x4)).setCell ⟨w.heap.size + 1 + 1, 5, none⟩ (.int .i64 x5)).setCell ⟨w.heap.size + 1 + 1, 6, none⟩ (.int .i64 x6)).setCell ⟨w.heap.size + 1 + 1, 7, none⟩ (.int .i64 x7)).setCell ⟨w.heap.size + 1 + 1, 8, none⟩ (.int .i64 x8)).setCell ⟨w.heap.size + 1 + 1, 9, none⟩ (.int .i64 x9)).setCell ⟨w.heap.size + 1 + 1, 10, none⟩ (.int .i64 x10) = w2 at *
 have k11 := zAb XP2.out.bx 11 rfl
 have kf := zAh XP2.out.bx
 have kl := zAf XP2.out.bx
 simp only [zgc, zga, zgb] at k11
 have o11 := zAb XO2.out.bx 11 rfl
 have of := zAh XO2.out.bx
 have ol := zAf XO2.out.bx
 simp only [zgc, zga, zgb] at o11
 have XO3 : Hid (BX w (w2.setCell ⟨w.heap.size + 1 + 1, 11, none⟩ (.int .i64 x11)) (w.heap.size + 1 + 1) 136 [.int .i64 x0, .int .i64 x1, .int .i64 x2, .int .i64 x3, .int .i64 x4, .int .i64 x5, .int .i64 x6, .int .i64 x7, .int .i64 x8, .int .i64 x9, .int .i64 x10, .int .i64 x11, .slice none 0 0]) := Lib.hid (XO2.out.sets [.int .i64 x11] 11)
 have XP3 : Hid (BX w (w2.setCell ⟨w.heap.size + 1 + 1, 11, none⟩ (.int .i64 x11)) (w.heap.size) 194 [.int .i64 x0, .int .i64 x1, .int .i64 x2, .int .i64 x3, .int .i64 x4, .int .i64 x5, .int .i64 x6, .int .i64 x7, .int .i64 x8, .int .i64 x9, .int .i64 x10, .int .i64 x11, .slice A n c]) := Lib.hid (XP2.out.fars (b' := w.heap.size + 1 + 1) (by omega) (by omega) [.int .i64 x11] 11)
 have XR3 : Hid (BX w (w2.setCell ⟨w.heap.size + 1 + 1, 11, none⟩ (.int .i64 x11)) (w.heap.size + 1) 136 [.int .i64 0, .int .i64 0, .int .i64 0, .int .i64 0, .int .i64 0, .int .i64 0, .int .i64 0, .int .i64 0, .int .i64 0, .int .i64 0, .int .i64 0, .int .i64 0, .slice none 0 0]) := Lib.hid (XR2.out.fars (b' := w.heap.size + 1 + 1) (by omega) (by omega) [.int .i64 x11] 11)
 clear XP2 XR2 XO2
 go_upto_region 4 with fail
 clear k11 kf kl o11 of ol
 generalize w2.setCell ⟨w.heap.size + 1 + 1, 11, none⟩ (.int .i64 x11) = w3 at *
 have k12 := zAb XP3.out.bx 12 rfl
 have kf := zAh XP3.out.bx
 have kl := zAf XP3.out.bx
 simp only [zgc, zga, zgb] at k12
 go_wp2_with fail
 refine (toIntS_any A n c zs _ HN.out (HR.out.below XP3.out.bel)).mono ?_
 rintro e w4 ⟨v, rfl, own, hb4⟩
 obtain ⟨A', c', rfl, _⟩ := zAt own
 have hlo := zAf XO3.out.bx
 have XP4 := Lib.hid (XP3.out.step hb4)
 have XR4 := Lib.hid (XR3.out.step hb4)
 have XO4 := Lib.hid (XO3.out.step hb4)
 clear hb4 k12 kf kl XP3 XR3 XO3
 have o12 := zAb XO4.out.bx 12 rfl
 have of := zAh XO4.out.bx
 have ol := zAf XO4.out.bx
 simp only [zgc, zga, zgb] at o12
 have XO5 : Hid (BX w (w4.setCell ⟨w.heap.size + 1 + 1, 12, none⟩ (.slice A' n c')) (w.heap.size + 1 + 1) 136 [.int .i64 x0, .int .i64 x1, .int .i64 x2, .int .i64 x3, .int .i64 x4, .int .i64 x5, .int .i64 x6, .int .i64 x7, .int .i64 x8, .int .i64 x9, .int .i64 x10, .int .i64 x11, .slice A' n c']) := Lib.hid (XO4.out.sets [.slice A' n c'] 12)
 have XR5 : Hid (BX w (w4.setCell ⟨w.heap.size + 1 + 1, 12, none⟩ (.slice A' n c')) (w.heap.size + 1) 136 [.int .i64 0, .int .i64 0, .int .i64 0, .int .i64 0, .int .i64 0, .int .i64 0, .int .i64 0, .int .i64 0, .int .i64 0, .int .i64 0, .int .i64 0, .int .i64 0, .slice none 0 0]) := Lib.hid (XR4.out.fars (b' := w.heap.size + 1 + 1) (by omega) (by omega) [.slice A' n c'] 12)
 have OW5 := Lib.hid (own_sets (b := w.heap.size + 1 + 1) hlo [.slice A' n c'] 12 own)
 change Hid (World.ownsRow (w4.setCell ⟨w.heap.size + 1 + 1, 12, none⟩ (.slice A' n c')) _ _ _ _ _ _) at OW5
 clear own XP4 XR4 XO4
 go_upto_region 5 with fail
 clear o12 of ol
 generalize w4.setCell ⟨w.heap.size + 1 + 1, 12, none⟩ (.slice A' n c') = w5 at *
 have o0 := zAb XO5.out.bx 0 rfl
 have o1 := zAb XO5.out.bx 1 rfl
 have o2 := zAb XO5.out.bx 2 rfl
 have o3 := zAb XO5.out.bx 3 rfl
 have o4 := zAb XO5.out.bx 4 rfl
 have o5 := zAb XO5.out.bx 5 rfl
 have o6 := zAb XO5.out.bx 6 rfl
 have o7 := zAb XO5.out.bx 7 rfl
 have o8 := zAb XO5.out.bx 8 rfl
 have o9 := zAb XO5.out.bx 9 rfl
 have o10 := zAb XO5.out.bx 10 rfl
 have o11 := zAb XO5.out.bx 11 rfl
 have o12 := zAb XO5.out.bx 12 rfl
 have of := zAh XO5.out.bx
 have ol := zAf XO5.out.bx
 simp only [zgc, zga, zgb] at o0 o1 o2 o3 o4 o5 o6 o7 o8 o9 o10 o11 o12
 have r0 := zAb XR5.out.bx 0 rfl
 have r1 := zAb XR5.out.bx 1 rfl
 have r2 := zAb XR5.out.bx 2 rfl
 have r3 := zAb XR5.out.bx 3 rfl
 have r4 := zAb XR5.out.bx 4 rfl
 have r5 := zAb XR5.out.bx 5 rfl
 have r6 := zAb XR5.out.bx 6 rfl
 have r7 := zAb XR5.out.bx 7 rfl
 have r8 := zAb XR5.out.bx 8 rfl
 have r9 := zAb XR5.out.bx 9 rfl
 have r10 := zAb XR5.out.bx 10 rfl
 have r11 := zAb XR5.out.bx 11 rfl
 have r12 := zAb XR5.out.bx 12 rfl
 have rf := zAh XR5.out.bx
 have rl := zAf XR5.out.bx
 simp only [zgc, zga, zgb] at r0 r1 r2 r3 r4 r5 r6 r7 r8 r9 r10 r11 r12
 have XW : Hid (BX w (((((((((((((w5.setCell ⟨w.heap.size + 1, 0, none⟩ (.int .i64 x0)).setCell ⟨w.heap.size + 1, 1, none⟩ (.int .i64 x1)).setCell ⟨w.heap.size + 1, 2, none⟩ (.int .i64 x2)).setCell ⟨w.heap.size + 1, 3, none⟩ (.int .i64 x3)).setCell ⟨w.heap.size + 1, 4, none⟩ (.int .i64 x4)).setCell ⟨w.heap.size + 1, 5, none⟩ (.int .i64 x5)).setCell ⟨w.heap.size + 1, 6, none⟩ (.int .i64 x6)).setCell ⟨w.heap.size + 1, 7, none⟩ (.int .i64 x7)).setCell ⟨w.heap.size + 1, 8, none⟩ (.int .i64 x8)).setCell ⟨w.heap.size + 1, 9, none⟩ (.int .i64 x9)).setCell ⟨w.heap.size + 1, 10, none⟩ (.int .i64 x10)).setCell ⟨w.heap.size + 1, 11, none⟩ (.int .i64 x11)).setCell ⟨w.heap.size + 1, 12, none⟩ (.slice A' n c')) (w.heap.size + 1) 136 [.int .i64 x0, .int .i64 x1, .int .i64 x2, .int .i64 x3, .int .i64 x4, .int .i64 x5, .int .i64 x6, .int .i64 x7, .int .i64 x8, .int .i64 x9, .int .i64 x10, .int .i64 x11, .slice A' n c']) := Lib.hid (XR5.out.sets [.int .i64 x0, .int .i64 x1, .int .i64 x2, .int .i64 x3, .int .i64 x4, .int .i64 x5, .int .i64 x6, .int .i64 x7, .int .i64 x8, .int .i64 x9, .int .i64 x10, .int .i64 x11, .slice A' n c'] 0)
 have OW := Lib.hid (own_sets (b := w.heap.size + 1) (by omega) [.int .i64 x0, .int .i64 x1, .int .i64 x2, .int .i64 x3, .int .i64 x4, .int .i64 x5, .int .i64 x6, .int .i64 x7, .int .i64 x8, .int .i64 x9, .int .i64 x10, .int .i64 x11, .slice A' n c'] 0 OW5.out)
 change Hid (World.ownsRow (((((((((((((w5.setCell ⟨w.heap.size + 1, 0, none⟩ (.int .i64 x0)).setCell ⟨w.heap.size + 1, 1, none⟩ (.int .i64 x1)).setCell ⟨w.heap.size + 1, 2, none⟩ (.int .i64 x2)).setCell ⟨w.heap.size + 1, 3, none⟩ (.int .i64 x3)).setCell ⟨w.heap.size + 1, 4, none⟩ (.int .i64 x4)).setCell ⟨w.heap.size + 1, 5, none⟩ (.int .i64 x5)).setCell ⟨w.heap.size + 1, 6, none⟩ (.int .i64 x6)).setCell ⟨w.heap.size + 1, 7, none⟩ (.int .i64 x7)).setCell ⟨w.heap.size + 1, 8, none⟩ (.int .i64 x8)).setCell ⟨w.heap.size + 1, 9, none⟩ (.int .i64 x9)).setCell ⟨w.heap.size + 1, 10, none⟩ (.int .i64 x10)).setCell ⟨w.heap.size + 1, 11, none⟩ (.int .i64 x11)).setCell ⟨w.heap.size + 1, 12, none⟩ (.slice A' n c')) _ _ _ _ _ _) at OW
 go_wp2
 generalize ((((((((((((w5.setCell ⟨w.heap.size + 1, 0, none⟩ (.int .i64 x0)).setCell ⟨w.heap.size + 1, 1, none⟩ (.int .i64 x1)).setCell ⟨w.heap.size + 1, 2, none⟩ (.int .i64 x2)).setCell ⟨w.heap.size + 1, 3, none⟩ (.int .i64 x3)).setCell ⟨w.heap.size + 1, 4, none⟩ (.int .i64 x4)).setCell ⟨w.heap.size + 1, 5, none⟩ (.int .i64 x5)).setCell ⟨w.heap.size + 1, 6, none⟩ (.int .i64 x6)).setCell ⟨w.heap.size + 1, 7, none⟩ (.int .i64 x7)).setCell ⟨w.heap.size + 1, 8, none⟩ (.int .i64 x8)).setCell ⟨w.heap.size + 1, 9, none⟩ (.int .i64 x9)).setCell ⟨w.heap.size + 1, 10, none⟩ (.int .i64 x10)).setCell ⟨w.heap.size + 1, 11, none⟩ (.int .i64 x11)).setCell ⟨w.heap.size + 1, 12, none⟩ (.slice A' n c') = W at *
 have f0 := zAb XW.out.bx 0 rfl
 have f1 := zAb XW.out.bx 1 rfl
 have f2 := zAb XW.out.bx 2 rfl
 have f3 := zAb XW.out.bx 3 rfl
 have f4 := zAb XW.out.bx 4 rfl
 have f5 := zAb XW.out.bx 5 rfl
 have f6 := zAb XW.out.bx 6 rfl
 have f7 := zAb XW.out.bx 7 rfl
 have f8 := zAb XW.out.bx 8 rfl
 have f9 := zAb XW.out.bx 9 rfl
 have f10 := zAb XW.out.bx 10 rfl
 have f11 := zAb XW.out.bx 11 rfl
 have f12 := zAb XW.out.bx 12 rfl
 have ff := zAh XW.out.bx
 have fl := zAf XW.out.bx
 simp only [zgc, zga, zgb] at f0 f1 f2 f3 f4 f5 f6 f7 f8 f9 f10 f11 f12
 exact bodyPost_ret (v := .agg #[.int .i64 x0, .int .i64 x1, .int .i64 x2, .int .i64 x3, .int .i64 x4, .int .i64 x5, .int .i64 x6, .int .i64 x7, .int .i64 x8, .int .i64 x9, .int .i64 x10, .int .i64 x11, .slice A' n c']) (by simp [results, Tryz.results163, go_sem, f0, f1, f2, f3, f4, f5, f6, f7, f8, f9, f10, f11, f12]) rfl ⟨_, rfl, zAo OW.out (by omega), XW.out.bel⟩
set_option maxHeartbeats 8000000 in
set_option maxRecDepth 20000 in
theorem toRunS_any (A : Option Addr) (n c : Nat) (hs : List Rn) (w : World) (hn : n ≤ 1048576) (hm : ∀ p ∈ hs, p.nd.length ≤ 1048576) (hr : RdNI w A n hs) :
  Calls Tryz.prog 87 #[.slice A n c] w fun e w' => ∃ v ss, e = .returned v ∧ OwnN w' w.heap.size v n ss hs ∧ Below w.heap.size w w' := by
 obtain ⟨i0, hi, hz0, hz1, hz2⟩ := info_parts infoNR
 have hn9 : n ≤ 9223372036854775807 := by omega
 have HN := Lib.hid hn
 have HR := Lib.hid hr
 have HM := Lib.hid hm
 clear hn hr hm
 go_enter Tryz.func87, Tryz.ntmps87
 go_wp2_with (at_make; refine wpList_make_full _ rfl _ _ 74 rfl w.heap.size 136 i0 (.agg #[.int .i64 0, .int .i64 0, .int .i64 0, .int .i64 0, .int .i64 0, .int .i64 0, .int .i64 0, .int .i64 0, .int .i64 0, .int .i64 0, .int .i64 0, .int .i64 0, .slice none 0 0]) 13 Tryz.underlying74 hi hz0 hz1 .i64 .i64 _ _ n rfl rfl rfl rfl (by rw [hz2]; have := HN.out; omega) (by unfold maxLen; have := HN.out; omega) (Nat.le_refl _) ?_; intro w0 hown0 hgrow0)
 have hb0 : Below w.heap.size w w0 := (Below.refl _ _).grown hgrow0 (Nat.le_refl _) (fun k hk => by cases hk)
 obtain ⟨cur0, hh0, hsz0⟩ : ∃ cur, w0.heap[w.heap.size]? = some (.cells cur 136 (0, 0)) ∧ cur.size = n * 13 := by
  rcases hown0.2 with ⟨h, _⟩ | ⟨g, cap, cur, hv, _, hh, h1, h2, h3, _⟩
  ·cases h
  ·injection hv with a1 a2 a3
   injection a1 with a1
   injection a1 with a1
   subst a1 a3
   exact ⟨cur, hh, h3⟩
 clear hown0 hgrow0 hi hz0 hz1 hz2
 go_wp2
 go_loopw [4] (fun i wr => ∃ k : Nat, k ≤ n ∧ i = .int .i64 k ∧ Below w.heap.size w wr ∧ ∃ cur ss, wr.heap[w.heap.size]? = some (.cells cur 136 (0, 0)) ∧ cur.size = n * 13 ∧ Hid (ss.length = k ∧ cur.toList.take (k * 13) = ncells (hs.take k) ss ∧ (∀ (j : Nat) x p, ss[j]? = some x → hs[j]? = some p → wr.ownsRow w.heap.size 3 1 x p.nd.length (ints p.nd)) ∧ ∀ (i j : Nat) x y, i < j → ss[i]? = some x → ss[j]? = some y → ∀ b, x.ownBlock = some b → y.ownBlock ≠ some b)) (fun i _ => n - (intOf i).toNat)
 case atStart => exact ⟨0, Nat.zero_le _, rfl, hb0, cur0, [], hh0, hsz0, Lib.hid ⟨rfl, by simp [ncells], fun j x p h => by simp at h, fun i j x y _ h => by simp at h⟩⟩
 case round =>
  obtain ⟨k, hk, rfl, hbw, cur, ss, hh, hsz, hm2⟩ := hrel
  clear hb0 hh0 hsz0
  by_cases hlt : k < n
  ·obtain ⟨b, off, rfl, hbl, hc⟩ := HR.out.2.2 (by omega)
   have hl : k < hs.length := by have := HR.out.1; omega
   have hq : hs[k]? = some hs[k] := zgh hl
   have hle : hs[k].nd.length ≤ 1048576 := HM.out _ (List.getElem_mem hl)
   generalize hs[k] = p at hq hle
   obtain ⟨B, c', ⟨d0, d1, d2, d3, d4, d5, d6, d7, d8, d9, d10, d11, d12⟩, hre⟩ := hc k p hq
   have c0 := (hbw.cell (p := ⟨b, off + k * 13, none⟩) hbl).trans d0
   have c1 := (hbw.cell (p := ⟨b, off + k * 13 + 1, none⟩) hbl).trans d1
   have c2 := (hbw.cell (p := ⟨b, off + k * 13 + 2, none⟩) hbl).trans d2
   have c3 := (hbw.cell (p := ⟨b, off + k * 13 + 3, none⟩) hbl).trans d3
   have c4 := (hbw.cell (p := ⟨b, off + k * 13 + 4, none⟩) hbl).trans d4
   have c5 := (hbw.cell (p := ⟨b, off + k * 13 + 5, none⟩) hbl).trans d5
   have c6 := (hbw.cell (p := ⟨b, off + k * 13 + 6, none⟩) hbl).trans d6
   have c7 := (hbw.cell (p := ⟨b, off + k * 13 + 7, none⟩) hbl).trans d7
   have c8 := (hbw.cell (p := ⟨b, off + k * 13 + 8, none⟩) hbl).trans d8
   have c9 := (hbw.cell (p := ⟨b, off + k * 13 + 9, none⟩) hbl).trans d9
   have c10 := (hbw.cell (p := ⟨b, off + k * 13 + 10, none⟩) hbl).trans d10
   have c11 := (hbw.cell (p := ⟨b, off + k * 13 + 11, none⟩) hbl).trans d11
   have c12 := (hbw.cell (p := ⟨b, off + k * 13 + 12, none⟩) hbl).trans d12
   have HQ := Lib.hid hq
   have HLE := Lib.hid hle
   have HH := Lib.hid hh
   have HZ := Lib.hid hsz
   have HE := Lib.hid (hre.below hbw)
   clear hc d0 d1 d2 d3 d4 d5 d6 d7 d8 d9 d10 d11 d12 hq hle hre hh hsz
   have hlt' : (k : Int) < n := by omega
   go_wp2_with fail
   refine (toRun_any p.j.id p.j.pr p.j.nn p.j.na p.j.nb p.j.nc p.j.la p.j.lb p.j.lc p.j.wl p.j.lv p.at_ B p.nd.length c' p.nd _ HLE.out HE.out).mono ?_
   rintro e w1 ⟨x, rfl, own1, hb1⟩
   obtain ⟨B1, cB, rfl, rd1⟩ := zAt own1
   clear rd1
   have hh1 : w1.heap[w.heap.size]? = some (.cells cur 136 (0, 0)) := (hb1.block _ (zAf HH.out)).trans HH.out
   obtain ⟨o0, ho0⟩ := zAj (i := k * 13) hh1 (by have := HZ.out; omega)
   have hf0 := zAi (i := k * 13) hh1
   obtain ⟨o1, ho1⟩ := zAj (i := k * 13 + 1) hh1 (by have := HZ.out; omega)
   have hf1 := zAi (i := k * 13 + 1) hh1
   obtain ⟨o2, ho2⟩ := zAj (i := k * 13 + 2) hh1 (by have := HZ.out; omega)
   have hf2 := zAi (i := k * 13 + 2) hh1
   obtain ⟨o3, ho3⟩ := zAj (i := k * 13 + 3) hh1 (by have := HZ.out; omega)
   have hf3 := zAi (i := k * 13 + 3) hh1
   obtain ⟨o4, ho4⟩ := zAj (i := k * 13 + 4) hh1 (by have := HZ.out; omega)
   have hf4 := zAi (i := k * 13 + 4) hh1
   obtain ⟨o5, ho5⟩ := zAj (i := k * 13 + 5) hh1 (by have := HZ.out; omega)
   have hf5 := zAi (i := k * 13 + 5) hh1
   obtain ⟨o6, ho6⟩ := zAj (i := k * 13 + 6) hh1 (by have := HZ.out; omega)
   have hf6 := zAi (i := k * 13 + 6) hh1
   obtain ⟨o7, ho7⟩ := zAj (i := k * 13 + 7) hh1 (by have := HZ.out; omega)
   have hf7 := zAi (i := k * 13 + 7) hh1
   obtain ⟨o8, ho8⟩ := zAj (i := k * 13 + 8) hh1 (by have := HZ.out; omega)
   have hf8 := zAi (i := k * 13 + 8) hh1
   obtain ⟨o9, ho9⟩ := zAj (i := k * 13 + 9) hh1 (by have := HZ.out; omega)
   have hf9 := zAi (i := k * 13 + 9) hh1
   obtain ⟨o10, ho10⟩ := zAj (i := k * 13 + 10) hh1 (by have := HZ.out; omega)
   have hf10 := zAi (i := k * 13 + 10) hh1
   obtain ⟨o11, ho11⟩ := zAj (i := k * 13 + 11) hh1 (by have := HZ.out; omega)
   have hf11 := zAi (i := k * 13 + 11) hh1
   obtain ⟨o12, ho12⟩ := zAj (i := k * 13 + 12) hh1 (by have := HZ.out; omega)
   have hf12 := zAi (i := k * 13 + 12) hh1
   have HH1 := Lib.hid hh1
   have OW1 := Lib.hid own1
   clear hh1 own1 c0 c1 c2 c3 c4 c5 c6 c7 c8 c9 c10 c11 c12
   go_wp2
   have hne : ∀ b', (Value.slice B1 p.nd.length cB).ownBlock = some b' → b' ≠ w.heap.size := zAr OW1.out HH1.out (by decide)
   have hlw := zAf HH.out
   obtain ⟨m1, m2, m3, m4⟩ := hm2.out
   refine ⟨⟨k + 1, by omega, by go_num, (((((((((((((zAc hbw hb1).setCell (Nat.le_refl _) _).setCell (Nat.le_refl _) _).setCell (Nat.le_refl _) _).setCell (Nat.le_refl _) _).setCell (Nat.le_refl _) _).setCell (Nat.le_refl _) _).setCell (Nat.le_refl _) _).setCell (Nat.le_refl _) _).setCell (Nat.le_refl _) _).setCell (Nat.le_refl _) _).setCell (Nat.le_refl _) _).setCell (Nat.le_refl _) _).setCell (Nat.le_refl _) _, _, ss ++ [.slice B1 p.nd.length cB], zAk (zAk (zAk (zAk (zAk (zAk (zAk (zAk (zAk (zAk (zAk (zAk (zAk (HH1.out))))))))))))), by simpa using HZ.out, Lib.hid ⟨by simp [m1], ?_, fun j y p' hy hp' => ?_, fun i j y z hij hy hz b' hyb hzb => ?_⟩⟩, by simp [intOf]; omega⟩
   ·rw [take_snoc' HQ.out, ncells_app (by rw [List.length_take, m1]; have := HR.out.1; omega), ← m2]
    have h9 := take_setL [.int .i64 p.j.id, .int .i64 p.j.pr, .int .i64 p.j.nn, .int .i64 p.j.na, .int .i64 p.j.nb, .int .i64 p.j.nc, .int .i64 p.j.la, .int .i64 p.j.lb, .int .i64 p.j.lc, .int .i64 p.j.wl, .int .i64 p.j.lv, .int .i64 p.at_, Value.slice B1 p.nd.length cB] cur.toList (k * 13) (by simp; have := HZ.out; omega)
    rw [← h9]
    simp only [Array.toList_setIfInBounds, setL, List.length_cons, List.length_nil, Nat.add_assoc, Nat.add_mul, Nat.one_mul, Nat.reduceAdd]
   ·by_cases hj : j < ss.length
    ·rw [List.getElem?_append_left hj] at hy
     have o1 := m3 j y p' hy hp'
     exact zAq (zAq (zAq (zAq (zAq (zAq (zAq (zAq (zAq (zAq (zAq (zAq (zAq (zAe o1 hb1) (zAr o1 HH.out (by decide)) _) (zAr o1 HH.out (by decide)) _) (zAr o1 HH.out (by decide)) _) (zAr o1 HH.out (by decide)) _) (zAr o1 HH.out (by decide)) _) (zAr o1 HH.out (by decide)) _) (zAr o1 HH.out (by decide)) _) (zAr o1 HH.out (by decide)) _) (zAr o1 HH.out (by decide)) _) (zAr o1 HH.out (by decide)) _) (zAr o1 HH.out (by decide)) _) (zAr o1 HH.out (by decide)) _) (zAr o1 HH.out (by decide)) _
    ·rw [List.getElem?_append_right (by omega)] at hy
     have hj2 : j = k := by have := (List.getElem?_eq_some_iff.1 hy).1; simp at this; omega
     subst hj2
     rw [m1, Nat.sub_self] at hy
     simp at hy
     subst hy
     rw [HQ.out] at hp'
     injection hp' with hp'
     subst hp'
     exact zAo (zAq (zAq (zAq (zAq (zAq (zAq (zAq (zAq (zAq (zAq (zAq (zAq (zAq (OW1.out) (hne) _) (hne) _) (hne) _) (hne) _) (hne) _) (hne) _) (hne) _) (hne) _) (hne) _) (hne) _) (hne) _) (hne) _) (hne) _) (by omega)
   ·have hj3 := (List.getElem?_eq_some_iff.1 hz).1
    simp at hj3
    rw [List.getElem?_append_left (by omega)] at hy
    by_cases hj : j < ss.length
    ·rw [List.getElem?_append_left hj] at hz
     exact m4 i j y z hij hy hz b' hyb hzb
    ·rw [List.getElem?_append_right (by omega)] at hz
     have h9 : j - ss.length = 0 := by omega
     rw [h9] at hz
     simp at hz
     subst hz
     obtain ⟨p', hp'⟩ : ∃ p', hs[i]? = some p' := ⟨_, zgh (show i < hs.length by have := HR.out.1; omega)⟩
     have o1 := own_lt (m3 i y p' hy hp') b' hyb
     have o2 := own_ge OW1.out b' hzb
     omega
  ·have hk9 : k = n := by omega
   subst hk9
   have hlen := HR.out.1
   obtain ⟨m1, m2, m3, m4⟩ := hm2.out
   have hO : OwnN wr w.heap.size (.slice (some ⟨w.heap.size, 0, none⟩) k k) k ss hs := by
    have m5 : cur.toList.take (k * 13) = ncells hs ss := by rw [m2, List.take_of_length_le (by omega)]
    clear m2
    refine ⟨⟨by rw [← m5, List.length_take]; simp; omega, Or.inr ⟨w.heap.size, k, cur, rfl, Nat.le_refl _, hh, Nat.le_refl _, Nat.le_trans HN.out (by decide), by simpa using hsz, m5⟩⟩, hlen, m1, fun j x p hx hp => ⟨HM.out _ (List.mem_of_getElem? hp), m3 j x p hx hp⟩, m4⟩
   have HO := Lib.hid hO
   have HB := Lib.hid hbw
   clear hO hbw hh hsz hm2
   go_wp2
   go_ret
   exact ⟨_, _, rfl, HO.out, HB.out⟩
end Go.Proofs.YtnphjhbfpoekpaaGreat
