import Derived.Test.YtnphjhbfpoekpaaGreatLr0Pl
namespace Go.Proofs.YtnphjhbfpoekpaaGreat
set_option linter.unusedSimpArgs false
set_option linter.unusedVariables false
set_option linter.unnecessarySimpa false
open Go.RowKit
def ncells : List Rn → List Value → List Value
 | h :: hs, x :: ss => .int .i64 h.j.id :: .int .i64 h.j.pr :: .int .i64 h.j.nn :: .int .i64 h.j.na :: .int .i64 h.j.nb :: .int .i64 h.j.nc :: .int .i64 h.j.la :: .int .i64 h.j.lb :: .int .i64 h.j.lc :: .int .i64 h.j.wl :: .int .i64 h.j.lv :: .int .i64 h.at_ :: x :: ncells hs ss
 | _, _ => []
theorem ncells_len : ∀ {hs : List Rn} {ss : List Value}, hs.length = ss.length → (ncells hs ss).length = hs.length * 13
 | [], [], _ => rfl
 | h :: hs, x :: ss, e => by
  have := ncells_len (hs := hs) (ss := ss) (by simpa using e)
  simp only [ncells, List.length_cons, this]; omega
theorem ncells_cons (a : Rn) (y : Value) (l : List Rn) (m : List Value) : ncells (a :: l) (y :: m) = ncells [a] [y] ++ ncells l m := by simp only [ncells, List.cons_append, List.nil_append]
theorem ncells_get : ∀ {hs : List Rn} {ss : List Value} {k : Nat} {h : Rn} {x : Value}, hs[k]? = some h → ss[k]? = some x → ∀ i : Nat, i < 13 → (ncells hs ss)[k * 13 + i]? = (ncells [h] [x])[i]?
 | a :: hs, y :: ss, 0, h, x, e1, e2, i, hi => by
  have e3 : a = h := by simpa using e1
  have e4 : y = x := by simpa using e2
  subst e3 e4
  have e := ncells_cons a y hs ss
  rw [e, Nat.zero_mul, Nat.zero_add, List.getElem?_append_left (by rw [ncells_len rfl]; simpa using hi)]
 | a :: hs, y :: ss, k + 1, h, x, e1, e2, i, hi => by
  have h9 := ncells_get (hs := hs) (ss := ss) (k := k) (h := h) (x := x) (by simpa using e1) (by simpa using e2) i hi
  have e := ncells_cons a y hs ss
  have e5 : (ncells [a] [y]).length = 13 := ncells_len rfl
  rw [e, List.getElem?_append_right (by rw [e5]; omega), e5, show (k + 1) * 13 + i - 13 = k * 13 + i by omega, h9]
 | [], _, _, _, _, e1, _, _, _ => by simp at e1
 | _ :: _, [], _, _, _, _, e2, _, _ => by simp at e2
structure OwnN (w : World) (lo : Nat) (v : Value) (n : Nat) (ss : List Value) (hs : List Rn) : Prop where
 own : w.ownsRow lo 136 13 v n (ncells hs ss)
 len : hs.length = n
 slen : ss.length = n
 each : ∀ (k : Nat) x h, ss[k]? = some x → hs[k]? = some h → h.nd.length ≤ 1048576 ∧ w.ownsRow lo 3 1 x h.nd.length (ints h.nd)
 apart : ∀ (i j : Nat) x y, i < j → ss[i]? = some x → ss[j]? = some y → ∀ b, x.ownBlock = some b → y.ownBlock ≠ some b
theorem OwnN.bel {w w' : World} {lo : Nat} {v : Value} {n : Nat} {ss : List Value} {hs : List Rn} (h : OwnN w lo v n ss hs) (hb : Below w.heap.size w w') : OwnN w' lo v n ss hs :=
 ⟨zAe h.own hb, h.len, h.slen, fun k x p a c => ⟨(h.each k x p a c).1, zAe (h.each k x p a c).2 hb⟩, h.apart⟩
theorem OwnN.mono {w : World} {lo lo' : Nat} {v : Value} {n : Nat} {ss : List Value} {hs : List Rn} (h : OwnN w lo v n ss hs) (hl : lo' ≤ lo) : OwnN w lo' v n ss hs :=
 ⟨zAn h.own hl, h.len, h.slen, fun k x p a c => ⟨(h.each k x p a c).1, zAn (h.each k x p a c).2 hl⟩, h.apart⟩
theorem OwnN.nil (w : World) (lo : Nat) : OwnN w lo (.slice none 0 0) 0 [] [] := ⟨own_nil _ _ _ _, rfl, rfl, fun k x p h => by simp at h, fun i j x y _ h => by simp at h⟩
theorem OwnN.fr {S : Nat → Prop} {w w' : World} {lo : Nat} {A : Option Addr} {n c : Nat} {ss : List Value} {hs : List Rn} (h : OwnN w lo (.slice A n c) n ss hs) (hb : Fr S w w') (hn : ∀ b, (atB A b ∨ atX ss n b) → ¬ S b) : OwnN w' lo (.slice A n c) n ss hs :=
 ⟨own_fr h.own hb (fun k hk => hn k (Or.inl (own_atB h.own hk))), h.len, h.slen, fun k x p a q => ⟨(h.each k x p a q).1, own_fr (h.each k x p a q).2 hb (fun b hb2 => hn b (Or.inr ⟨k, x, by have := (List.getElem?_eq_some_iff.1 a).1; have := h.slen; omega, a, hb2⟩))⟩, h.apart⟩
theorem OwnN.rng {w : World} {lo : Nat} {A : Option Addr} {n c : Nat} {ss : List Value} {hs : List Rn} (h : OwnN w lo (.slice A n c) n ss hs) : ∀ b, (atB A b ∨ atX ss n b) → lo ≤ b ∧ b < w.heap.size := by
 rintro b (h1 | ⟨i, x, hi, hx, hb⟩)
 ·exact own_rng h.own b h1
 ·obtain ⟨p, hp⟩ : ∃ p, hs[i]? = some p := ⟨_, zgh (by have := h.len; omega)⟩
  have h2 := (h.each i x p hx hp).2
  exact ⟨own_ge h2 b hb, own_lt h2 b hb⟩
structure RdN (w : World) (A : Option Addr) (n : Nat) (ss : List Value) (hs : List Rn) : Prop where
 len : hs.length = n
 slen : ss.length = n
 rl : ∀ g, A = some ⟨g, 0, none⟩ → g < w.heap.size
 rd : Rd w A n 13 (ncells hs ss)
 each : ∀ (k : Nat) x p, ss[k]? = some x → hs[k]? = some p → ∃ X d, x = .slice X p.nd.length d ∧ p.nd.length ≤ 1048576 ∧ p.nd.length ≤ d ∧ d ≤ 9223372036854775807 ∧ Rd w X p.nd.length 1 (ints p.nd) ∧ ∀ g, X = some ⟨g, 0, none⟩ → g < w.heap.size
theorem RdN.bel {w w' : World} {A : Option Addr} {n : Nat} {ss : List Value} {hs : List Rn} (h : RdN w A n ss hs) (hb : Below w.heap.size w w') : RdN w' A n ss hs :=
 ⟨h.len, h.slen, fun g hg => Nat.lt_of_lt_of_le (h.rl g hg) hb.size, h.rd.below h.rl hb, fun k x p a b => by
  obtain ⟨X, d, h1, h2, h3, h4, h5, h6⟩ := h.each k x p a b
  exact ⟨X, d, h1, h2, h3, h4, h5.below h6 hb, zAi h6 hb⟩⟩
theorem RdN.row {w : World} {A : Option Addr} {n : Nat} {ss : List Value} {hs : List Rn} (h : RdN w A n ss hs) {k : Nat} (hk : k < n) :
  ∃ g p X d, A = some ⟨g, 0, none⟩ ∧ hs[k]? = some p ∧ ss[k]? = some (.slice X p.nd.length d) ∧ p.nd.length ≤ 1048576 ∧ p.nd.length ≤ d ∧ d ≤ 9223372036854775807 ∧ Rd w X p.nd.length 1 (ints p.nd) ∧ (∀ g, X = some ⟨g, 0, none⟩ → g < w.heap.size) ∧ g < w.heap.size ∧
   w.cell? ⟨g, k * 13, none⟩ = some (.int .i64 p.j.id) ∧ w.cell? ⟨g, k * 13 + 1, none⟩ = some (.int .i64 p.j.pr) ∧ w.cell? ⟨g, k * 13 + 2, none⟩ = some (.int .i64 p.j.nn) ∧ w.cell? ⟨g, k * 13 + 3, none⟩ = some (.int .i64 p.j.na) ∧ w.cell? ⟨g, k * 13 + 4, none⟩ = some (.int .i64 p.j.nb) ∧ w.cell? ⟨g, k * 13 + 5, none⟩ = some (.int .i64 p.j.nc) ∧ w.cell? ⟨g, k * 13 + 6, none⟩ = some (.int .i64 p.j.la) ∧ w.cell? ⟨g, k * 13 + 7, none⟩ = some (.int .i64 p.j.lb) ∧ w.cell? ⟨g, k * 13 + 8, none⟩ = some (.int .i64 p.j.lc) ∧ w.cell? ⟨g, k * 13 + 9, none⟩ = some (.int .i64 p.j.wl) ∧ w.cell? ⟨g, k * 13 + 10, none⟩ = some (.int .i64 p.j.lv) ∧ w.cell? ⟨g, k * 13 + 11, none⟩ = some (.int .i64 p.at_) ∧ w.cell? ⟨g, k * 13 + 12, none⟩ = some (.slice X p.nd.length d) := by
 obtain ⟨p, hp⟩ : ∃ p, hs[k]? = some p := ⟨_, zgh (by have := h.len; omega)⟩
 obtain ⟨x, hx⟩ : ∃ x, ss[k]? = some x := ⟨_, zgh (by have := h.slen; omega)⟩
 obtain ⟨X, d, rfl, h2, h3, h4, h5, h6⟩ := h.each k x p hx hp
 obtain ⟨g, hg, hc⟩ := h.rd.2 (by omega)
 have hcc := ncells_get hp hx
 exact ⟨g, p, X, d, hg, hp, hx, h2, h3, h4, h5, h6, h.rl g hg, hc _ _ ((hcc 0 (by omega)).trans rfl), hc _ _ ((hcc 1 (by omega)).trans rfl), hc _ _ ((hcc 2 (by omega)).trans rfl), hc _ _ ((hcc 3 (by omega)).trans rfl), hc _ _ ((hcc 4 (by omega)).trans rfl), hc _ _ ((hcc 5 (by omega)).trans rfl), hc _ _ ((hcc 6 (by omega)).trans rfl), hc _ _ ((hcc 7 (by omega)).trans rfl), hc _ _ ((hcc 8 (by omega)).trans rfl), hc _ _ ((hcc 9 (by omega)).trans rfl), hc _ _ ((hcc 10 (by omega)).trans rfl), hc _ _ ((hcc 11 (by omega)).trans rfl), hc _ _ ((hcc 12 (by omega)).trans rfl)⟩
theorem OwnN.rd {w : World} {lo : Nat} {A : Option Addr} {n c : Nat} {ss : List Value} {hs : List Rn} (h : OwnN w lo (.slice A n c) n ss hs) : RdN w A n ss hs := by
 refine ⟨h.len, h.slen, own_blk h.own, zAv h.own, fun k x p a b => ?_⟩
 obtain ⟨h1, h2⟩ := h.each k x p a b
 obtain ⟨X, d, rfl, -⟩ := zAt h2
 exact ⟨X, d, rfl, h1, (own_cap9 h2).1, (own_cap9 h2).2, zAv h2, own_blk h2⟩
set_option maxHeartbeats 4000000 in
theorem eqRun_any (x0 x1 x2 x3 x4 x5 x6 x7 x8 x9 x10 x11 : Int) (A A' : Option Addr) (n c c' : Nat) (zs : List Int) (w : World) (hn : n ≤ 1048577) (ha : Rd w A n 1 (ints zs)) (hb : Rd w A' n 1 (ints zs)) (hl : ∀ g, A = some ⟨g, 0, none⟩ → g < w.heap.size) (hl2 : ∀ g, A' = some ⟨g, 0, none⟩ → g < w.heap.size) :
  Calls Tryz.prog 170 #[.agg #[.int .i64 x0, .int .i64 x1, .int .i64 x2, .int .i64 x3, .int .i64 x4, .int .i64 x5, .int .i64 x6, .int .i64 x7, .int .i64 x8, .int .i64 x9, .int .i64 x10, .int .i64 x11, .slice A n c], .agg #[.int .i64 x0, .int .i64 x1, .int .i64 x2, .int .i64 x3, .int .i64 x4, .int .i64 x5, .int .i64 x6, .int .i64 x7, .int .i64 x8, .int .i64 x9, .int .i64 x10, .int .i64 x11, .slice A' n c']] w fun e w' => e = .returned (.bool true) ∧ Below w.heap.size w w' := by
 have HN := Lib.hid hn
 have HA := Lib.hid ha
 have HB := Lib.hid hb
 have HL := Lib.hid hl
 have HL2 := Lib.hid hl2
 clear hn ha hb hl hl2
 go_enter Tryz.func170, Tryz.ntmps170
 have B2 : Hid (Below w.heap.size w ((w.alloc (.cells #[.int .i64 x0, .int .i64 x1, .int .i64 x2, .int .i64 x3, .int .i64 x4, .int .i64 x5, .int .i64 x6, .int .i64 x7, .int .i64 x8, .int .i64 x9, .int .i64 x10, .int .i64 x11, .slice A n c] 136)).alloc (.cells #[.int .i64 x0, .int .i64 x1, .int .i64 x2, .int .i64 x3, .int .i64 x4, .int .i64 x5, .int .i64 x6, .int .i64 x7, .int .i64 x8, .int .i64 x9, .int .i64 x10, .int .i64 x11, .slice A' n c'] 136))) := Lib.hid (zAc (zAa _ _) (zAa _ _))
 go_wp2_with fail
 refine (eqJob_any ⟨x0, x1, x2, x3, x4, x5, x6, x7, x8, x9, x10⟩ _).mono ?_
 rintro e w1 ⟨rfl, hb1⟩
 have hs1 := hb1.size
 (try simp at hs1)
 have hy10 : w.heap.size < w1.heap.size := by omega
 have hy11 : w.heap.size + 1 < w1.heap.size := by omega
 have hk10 := fun o => hb1.cell (p := ⟨w.heap.size, o, none⟩) zOm
 have hk11 := fun o => hb1.cell (p := ⟨w.heap.size + 1, o, none⟩) zOm
 have B3 := Lib.hid (zAc B2.out hb1)
 go_wp2_with fail
 refine (eqIntS_any A A' n c c' zs _ HN.out (HA.out.below HL.out B3.out) (HB.out.below HL2.out B3.out)).mono ?_
 rintro e w2 ⟨rfl, k2, hw2⟩
 have B4 := Lib.hid (zAc B3.out (below_eqN hw2))
 clear hw2
 go_wp2
 go_ret
 exact ⟨rfl, B4.out⟩
set_option maxHeartbeats 8000000 in
theorem eqRunS_any (A A' : Option Addr) (n c c' : Nat) (ss ss' : List Value) (hs : List Rn) (w : World) (hn : n ≤ 1048577) (ha : RdN w A n ss hs) (hb : RdN w A' n ss' hs) :
  Calls Tryz.prog 94 #[.slice A n c, .slice A' n c'] w fun e w' => e = .returned (.bool true) ∧ Below w.heap.size w w' := by
 have hm : n ≤ 9223372036854775807 := by omega
 have HN := Lib.hid hn
 have HA := Lib.hid ha
 have HB := Lib.hid hb
 clear hn ha hb
 go_enter Tryz.func94, Tryz.ntmps94
 go_wp2
 go_loopw [5] (fun i wr => ∃ k : Nat, k ≤ n ∧ i = .int .i64 k ∧ Below w.heap.size w wr) (fun i _ => n - (intOf i).toNat)
 case atStart => exact ⟨0, Nat.zero_le _, rfl, Below.refl _ _⟩
 case round =>
  obtain ⟨k, hk, rfl, hbw⟩ := hrel
  obtain ⟨wo, rfl⟩ : ∃ x, x = wr := ⟨wr, rfl⟩
  have HBW := Lib.hid hbw
  by_cases hlt : k < n
  ·have hlt' : (k : Int) < n := by omega
   obtain ⟨g, p, X, d, rfl, hp, hx, hl, l2, l3, ho, hX, hg, c0, c1, c2, c3, c4, c5, c6, c7, c8, c9, c10, c11, c12⟩ := (HA.out.bel hbw).row hlt
   obtain ⟨g', p', X', d', rfl, hp', hx', hl', l2', l3', ho', hX', hg', c0', c1', c2', c3', c4', c5', c6', c7', c8', c9', c10', c11', c12'⟩ := (HB.out.bel hbw).row hlt
   rw [hp] at hp'
   obtain rfl := Option.some.inj hp'
   have O1 := Lib.hid ho
   have O2 := Lib.hid ho'
   have L1 := Lib.hid hX
   have L2 := Lib.hid hX'
   clear hp hp' hx hx' ho ho' hbw hl' hX hX' l2 l3 l2' l3'
   go_wp2_with fail
   go_region_held3 (fun w' => w'.cell? ⟨g, k * 13, none⟩ = some (.int .i64 p.j.id) ∧ w'.cell? ⟨g, k * 13 + 1, none⟩ = some (.int .i64 p.j.pr) ∧ w'.cell? ⟨g, k * 13 + 2, none⟩ = some (.int .i64 p.j.nn) ∧ w'.cell? ⟨g, k * 13 + 3, none⟩ = some (.int .i64 p.j.na) ∧ w'.cell? ⟨g, k * 13 + 4, none⟩ = some (.int .i64 p.j.nb) ∧ w'.cell? ⟨g, k * 13 + 5, none⟩ = some (.int .i64 p.j.nc) ∧ w'.cell? ⟨g, k * 13 + 6, none⟩ = some (.int .i64 p.j.la) ∧ w'.cell? ⟨g, k * 13 + 7, none⟩ = some (.int .i64 p.j.lb) ∧ w'.cell? ⟨g, k * 13 + 8, none⟩ = some (.int .i64 p.j.lc) ∧ w'.cell? ⟨g, k * 13 + 9, none⟩ = some (.int .i64 p.j.wl) ∧ w'.cell? ⟨g, k * 13 + 10, none⟩ = some (.int .i64 p.j.lv) ∧ w'.cell? ⟨g, k * 13 + 11, none⟩ = some (.int .i64 p.at_) ∧ w'.cell? ⟨g, k * 13 + 12, none⟩ = some (.slice X p.nd.length d) ∧ w'.cell? ⟨g', k * 13, none⟩ = some (.int .i64 p.j.id) ∧ w'.cell? ⟨g', k * 13 + 1, none⟩ = some (.int .i64 p.j.pr) ∧ w'.cell? ⟨g', k * 13 + 2, none⟩ = some (.int .i64 p.j.nn) ∧ w'.cell? ⟨g', k * 13 + 3, none⟩ = some (.int .i64 p.j.na) ∧ w'.cell? ⟨g', k * 13 + 4, none⟩ = some (.int .i64 p.j.nb) ∧ w'.cell? ⟨g', k * 13 + 5, none⟩ = some (.int .i64 p.j.nc) ∧ w'.cell? ⟨g', k * 13 + 6, none⟩ = some (.int .i64 p.j.la) ∧ w'.cell? ⟨g', k * 13 + 7, none⟩ = some (.int .i64 p.j.lb) ∧ w'.cell? ⟨g', k * 13 + 8, none⟩ = some (.int .i64 p.j.lc) ∧ w'.cell? ⟨g', k * 13 + 9, none⟩ = some (.int .i64 p.j.wl) ∧ w'.cell? ⟨g', k * 13 + 10, none⟩ = some (.int .i64 p.j.lv) ∧ w'.cell? ⟨g', k * 13 + 11, none⟩ = some (.int .i64 p.at_) ∧ w'.cell? ⟨g', k * 13 + 12, none⟩ = some ((.slice X' p.nd.length d'))) (simp [go_sem, *, World.cell?_alloc_some, World.cell?_setCell_far, Nat.lt_add_right, Nat.ne_of_gt]) (first | (go_at_call 170; refine (eqRun_any p.j.id p.j.pr p.j.nn p.j.na p.j.nb p.j.nc p.j.la p.j.lb p.j.lc p.j.wl p.j.lv p.at_ X X' p.nd.length d d' p.nd _ (by omega) (O1.out.below L1.out ((Below.refl _ wo).drew)) (O2.out.below L2.out ((Below.refl _ wo).drew)) (zAi L1.out ((Below.refl _ wo).drew)) (zAi L2.out ((Below.refl _ wo).drew))).mono ?_; rintro e w9 ⟨rfl, hb9⟩; have hs9 := hb9.size; (try simp at hs9); have q0 := fun o => hb9.cell (p := ⟨g, o, none⟩) zOm; have q1 := fun o => hb9.cell (p := ⟨g', o, none⟩) zOm))
   have B9 := Lib.hid (zAc HBW.out (show Below wo.heap.size wo w9 from zAc ((Below.refl wo.heap.size wo).drew) hb9))
   clear hb9 q0 q1 hs9
   go_wp2
   exact ⟨⟨k + 1, by omega, by go_num, B9.out⟩, by simp [intOf]; omega⟩
  ·have hlt' : ¬ (k : Int) < n := by omega
   go_wp2
   go_ret
   exact ⟨rfl, hbw⟩
def RdNI (w : World) (A : Option Addr) (n : Nat) (hs : List Rn) : Prop :=
 hs.length = n ∧ (∀ p ∈ hs, p.nd.length ≤ maxLen) ∧ (0 < n → ∃ b off, A = some ⟨b, off, none⟩ ∧ b < w.heap.size ∧ ∀ (k : Nat) p, hs[k]? = some p → ∃ B c, (w.cell? ⟨b, off + k * 13, none⟩ = some (.int .i64 p.j.id) ∧ w.cell? ⟨b, off + k * 13 + 1, none⟩ = some (.int .i64 p.j.pr) ∧ w.cell? ⟨b, off + k * 13 + 2, none⟩ = some (.int .i64 p.j.nn) ∧ w.cell? ⟨b, off + k * 13 + 3, none⟩ = some (.int .i64 p.j.na) ∧ w.cell? ⟨b, off + k * 13 + 4, none⟩ = some (.int .i64 p.j.nb) ∧ w.cell? ⟨b, off + k * 13 + 5, none⟩ = some (.int .i64 p.j.nc) ∧ w.cell? ⟨b, off + k * 13 + 6, none⟩ = some (.int .i64 p.j.la) ∧ w.cell? ⟨b, off + k * 13 + 7, none⟩ = some (.int .i64 p.j.lb) ∧ w.cell? ⟨b, off + k * 13 + 8, none⟩ = some (.int .i64 p.j.lc) ∧ w.cell? ⟨b, off + k * 13 + 9, none⟩ = some (.int .i64 p.j.wl) ∧ w.cell? ⟨b, off + k * 13 + 10, none⟩ = some (.int .i64 p.j.lv) ∧ w.cell? ⟨b, off + k * 13 + 11, none⟩ = some (.int .i64 p.at_) ∧ w.cell? ⟨b, off + k * 13 + 12, none⟩ = some (.slice B p.nd.length c)) ∧ RdI w B p.nd.length p.nd)
theorem RdNI.below {w w' : World} {A : Option Addr} {n : Nat} {hs : List Rn} (h : RdNI w A n hs) (hb : Below w.heap.size w w') : RdNI w' A n hs :=
 ⟨h.1, h.2.1, fun hn => by
  obtain ⟨b, off, rfl, hl, hc⟩ := h.2.2 hn
  exact ⟨b, off, rfl, Nat.lt_of_lt_of_le hl hb.size, fun k p hp => by
   obtain ⟨B, c, ⟨h0, h1, h2, h3, h4, h5, h6, h7, h8, h9, h10, h11, h12⟩, hI⟩ := hc k p hp
   exact ⟨B, c, ⟨(hb.cell (p := ⟨b, _, none⟩) hl).trans h0, (hb.cell (p := ⟨b, _, none⟩) hl).trans h1, (hb.cell (p := ⟨b, _, none⟩) hl).trans h2, (hb.cell (p := ⟨b, _, none⟩) hl).trans h3, (hb.cell (p := ⟨b, _, none⟩) hl).trans h4, (hb.cell (p := ⟨b, _, none⟩) hl).trans h5, (hb.cell (p := ⟨b, _, none⟩) hl).trans h6, (hb.cell (p := ⟨b, _, none⟩) hl).trans h7, (hb.cell (p := ⟨b, _, none⟩) hl).trans h8, (hb.cell (p := ⟨b, _, none⟩) hl).trans h9, (hb.cell (p := ⟨b, _, none⟩) hl).trans h10, (hb.cell (p := ⟨b, _, none⟩) hl).trans h11, (hb.cell (p := ⟨b, _, none⟩) hl).trans h12⟩, hI.below hb⟩⟩⟩
end Go.Proofs.YtnphjhbfpoekpaaGreat
