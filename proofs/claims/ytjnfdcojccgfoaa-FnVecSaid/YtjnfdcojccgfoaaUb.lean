import Derived.Test.YtjnfdcojccgfoaaUa
import Derived.Test.YtjnfdcojccgfoaaGr
import Derived.Test.YtjnfdcojccgfoaaNq
namespace Go.Proofs.Ytjnfdcojccgfoaa
set_option linter.unusedSimpArgs false
set_option linter.unusedVariables false
set_option linter.unnecessarySimpa false
open Go.RowKit
/-- A room's five slices. -/
structure RA where
  A : Option Addr
  B : Option Addr
  U : Option Addr
  R : Option Addr
  L : Option Addr
  n : Nat
  m : Nat
  nu : Nat
  np : Nat
  nl : Nat
  c : Nat
  d : Nat
  cu : Nat
  cp : Nat
  cl : Nat
def RA.v (a : RA) : Value := .agg #[.slice a.A a.n a.c, .slice a.B a.m a.d, .slice a.U a.nu a.cu, .slice a.R a.np a.cp, .slice a.L a.nl a.cl]
structure RoomIn (w : World) (a : RA) (r : Rm) : Prop where
  par : RdI w a.A a.n r.par
  nodes : RdE w a.B a.m r.nodes
  up : RdB w a.U a.nu r.up
  profs : RdPI w a.R a.np r.profs
  lics : RdE w a.L a.nl r.lics
theorem RoomIn.below {w w' : World} {a : RA} {r : Rm} (h : RoomIn w a r) (hb : Below w.heap.size w w') : RoomIn w' a r :=
  ⟨h.par.below hb, h.nodes.below hb, h.up.below hb, h.profs.below hb, h.lics.below hb⟩
structure RmSz (a : RA) (r : Rm) : Prop where
  n : a.n ≤ 1048576
  m : a.m ≤ 1048576
  nu : a.nu ≤ 1048576
  np : a.np ≤ 1048576
  nl : a.nl ≤ 1048576
  profs : ∀ ps ∈ r.profs, ps.length ≤ 1048576
structure RmMax (a : RA) : Prop where
  n : a.n ≤ maxLen
  m : a.m ≤ maxLen
  nu : a.nu ≤ maxLen
  np : a.np ≤ maxLen
  nl : a.nl ≤ maxLen
structure RoomRd (w : World) (a : RA) (r : Rm) : Prop where
  n : a.n ≤ 1048576
  m : a.m ≤ 1048576
  nu : a.nu ≤ 1048576
  np : a.np ≤ 1048576
  nl : a.nl ≤ 1048576
  par : Rd w a.A a.n 1 (ints r.par)
  nodes : Rd w a.B a.m 4 (flat r.nodes)
  up : Rd w a.U a.nu 1 (bools r.up)
  profs : RdP w a.R a.np r.profs
  lics : Rd w a.L a.nl 4 (flat r.lics)
  ltA : ∀ g, a.A = some ⟨g, 0, none⟩ → g < w.heap.size
  ltB : ∀ g, a.B = some ⟨g, 0, none⟩ → g < w.heap.size
  ltU : ∀ g, a.U = some ⟨g, 0, none⟩ → g < w.heap.size
  ltL : ∀ g, a.L = some ⟨g, 0, none⟩ → g < w.heap.size
theorem RoomRd.below {w w' : World} {a : RA} {r : Rm} (h : RoomRd w a r) (hb : Below w.heap.size w w') : RoomRd w' a r :=
  ⟨h.n, h.m, h.nu, h.np, h.nl, h.par.below h.ltA hb, h.nodes.below h.ltB hb, h.up.below h.ltU hb, h.profs.below hb, h.lics.below h.ltL hb, lt_below h.ltA hb, lt_below h.ltB hb, lt_below h.ltU hb, lt_below h.ltL hb⟩
/-- A room of the call's own. -/
structure RoomOwn (w : World) (lo : Nat) (a : RA) (r : Rm) (xs : List Value) : Prop where
  n : a.n ≤ 1048576
  m : a.m ≤ 1048576
  nu : a.nu ≤ 1048576
  np : a.np ≤ 1048576
  nl : a.nl ≤ 1048576
  par : w.ownsRow lo 3 1 (.slice a.A a.n a.c) a.n (ints r.par)
  nodes : w.ownsRow lo 104 4 (.slice a.B a.m a.d) a.m (flat r.nodes)
  up : w.ownsRow lo 4 1 (.slice a.U a.nu a.cu) a.nu (bools r.up)
  profs : OwnP w lo (.slice a.R a.np a.cp) a.np xs r.profs
  lics : w.ownsRow lo 97 4 (.slice a.L a.nl a.cl) a.nl (flat r.lics)
  apart : ∀ (i : Nat) x, xs[i]? = some x → ∀ b, x.ownBlock = some b → ¬ atB a.L b
theorem own_rdd' {w : World} {lo : Nat} {e : TypeId} {size : Nat} {A : Option Addr} {n c : Nat} {xs : List Value} (h : w.ownsRow lo e size (.slice A n c) n xs) : Rd w A n size xs := by
  obtain ⟨A', c', e, h⟩ := own_rd h
  injection e with e1 e2 e3
  subst e1; exact h
theorem RoomOwn.rd {w : World} {lo : Nat} {a : RA} {r : Rm} {xs : List Value} (h : RoomOwn w lo a r xs) : RoomRd w a r := by
  refine ⟨h.n, h.m, h.nu, h.np, h.nl, own_rdd' h.par, own_rdd' h.nodes, own_rdd' h.up, ?_, own_rdd' h.lics, own_blk h.par, own_blk h.nodes, own_blk h.up, own_blk h.lics⟩
  obtain ⟨A', c', e, h, _⟩ := h.profs.rd
  injection e with e1 e2 e3
  rw [e1]; exact h
theorem RoomOwn.bel {w w' : World} {lo : Nat} {a : RA} {r : Rm} {xs : List Value} (h : RoomOwn w lo a r xs) (hb : Below w.heap.size w w') : RoomOwn w' lo a r xs :=
  ⟨h.n, h.m, h.nu, h.np, h.nl, own_bel h.par hb, own_bel h.nodes hb, own_bel h.up hb, h.profs.bel hb, own_bel h.lics hb, h.apart⟩
theorem RoomOwn.mono {w : World} {lo lo' : Nat} {a : RA} {r : Rm} {xs : List Value} (h : RoomOwn w lo a r xs) (hl : lo' ≤ lo) : RoomOwn w lo' a r xs :=
  ⟨h.n, h.m, h.nu, h.np, h.nl, own_mono h.par hl, own_mono h.nodes hl, own_mono h.up hl, h.profs.mono hl, own_mono h.lics hl, h.apart⟩
theorem OwnP.setBelow {w : World} {lo : Nat} {v : Value} {n : Nat} {xs : List Value} {pss : List (List Q)} (h : OwnP w lo v n xs pss) {a : Addr} (ha : a.block < lo) (u : Value) : OwnP (w.setCell a u) lo v n xs pss :=
  ⟨ownsRow_setCell_below h.own ha u, h.len, fun k x ps i j => ⟨(h.each k x ps i j).1, ownsRow_setCell_below (h.each k x ps i j).2 ha u⟩, h.apart⟩
theorem RoomOwn.setBelow {w : World} {lo : Nat} {a : RA} {r : Rm} {xs : List Value} (h : RoomOwn w lo a r xs) {q : Addr} (ha : q.block < lo) (u : Value) : RoomOwn (w.setCell q u) lo a r xs :=
  ⟨h.n, h.m, h.nu, h.np, h.nl, ownsRow_setCell_below h.par ha u, ownsRow_setCell_below h.nodes ha u, ownsRow_setCell_below h.up ha u, h.profs.setBelow ha u, ownsRow_setCell_below h.lics ha u, h.apart⟩
theorem RoomOwn.setCells {lo : Nat} {a : RA} {r : Rm} {xs : List Value} {b : Nat} (hb : b < lo) : ∀ (vs : List Value) (o : Nat) {w : World}, RoomOwn w lo a r xs → RoomOwn (w.setCells b o vs) lo a r xs
  | [], _, _, h => h
  | v :: vs, o, _, h => RoomOwn.setCells hb vs (o + 1) (h.setBelow (q := ⟨b, o, none⟩) hb v)

theorem szT_pos {n m : Nat} (h : 0 ≤ szT n m) : n ≤ 1048576 ∧ m ≤ 1048576 ∧ szT n m ≤ 1048576 := by
  rcases szT_cases n m with h1 | ⟨_, h1, h2⟩
  · omega
  · refine ⟨h1, h2, ?_⟩
    unfold szT szOf
    split
    · split <;> omega
    · omega
set_option maxHeartbeats 2000000 in
theorem szRoom_any (a : RA) (r : Rm) (w : World) (hx : RmMax a) (hr : RoomIn w a r) :
    Calls Try.prog 94 #[a.v, .int .i64 1048576] w fun e w' => ∃ z : Int, e = .returned (.int .i64 z) ∧ (z < 0 ∨ 0 ≤ z ∧ RmSz a r) ∧ Below w.heap.size w w' := by
  obtain ⟨A, B, U, R, L, n, m, nu, np, nl, c, d, cu, cp, cl⟩ := a
  dsimp only [RA.v]
  have HX := Lib.hid hx
  have HR := Lib.hid hr
  clear hx hr
  by_cases h1 : 0 ≤ szT n m
  · have hz1 : ¬ szT n m < 0 := by omega
    obtain ⟨hn, hm, hle⟩ := szT_pos h1
    by_cases h2 : 0 ≤ szOf (szT n m) nu
    · have hz2 : ¬ szOf (szT n m) nu < 0 := by omega
      obtain ⟨hu, e2⟩ := szOf_pos h2
      have HN := Lib.hid hn
      have HM := Lib.hid hm
      have HLE := Lib.hid hle
      have HU := Lib.hid hu
      have H1 := Lib.hid h1
      have H2 := Lib.hid h2
      have E2 := Lib.hid e2
      clear h1 h2 hn hm hle hu e2
      go_enter Try.func94, Try.ntmps94
      go_wp2_with fail
      refine (szTopo_any A B n c m d _ HX.out.n HX.out.m).mono ?_
      rintro e w1 ⟨rfl, hb1⟩
      have hs1 := hb1.size
      (try simp at hs1)
      have hy10 : w.heap.size < w1.heap.size := by omega
      have hk10 := fun o => hb1.cell (p := ⟨w.heap.size, o, none⟩) (by first | omega | (simp <;> omega))
      have hg10 := fun o => hb1.frozen (p := ⟨w.heap.size, o, none⟩) (by first | omega | (simp <;> omega))
      go_wp2_with fail
      refine (szBoolS_any U nu cu _ _ H1.out (by have := HLE.out; omega) HX.out.nu).mono ?_
      rintro e w2 ⟨rfl, rfl⟩

      go_wp2_with fail
      refine (szProfS_any R np cp _ r.profs _ H2.out (by have := E2.out; have := HLE.out; omega) HX.out.np (HR.out.profs.below (by repeat (first | exact Below.refl _ _ | assumption | (refine bstep ?_ (below_drewN _ _)) | exact bstep (by assumption) (by assumption) | (refine bstep ?_ (below_alloc _ _)) | (refine bstep ?_ (by assumption)) | (refine Below.setCell ?_ (by simp <;> omega) _) | refine Below.drew ?_)))).mono ?_
      rintro e w3 ⟨z3, rfl, hl3, hu3, hp3, hb3⟩
      have hs3 := hb3.size
      (try simp at hs3)
      have hy30 : w.heap.size < w3.heap.size := by omega
      have hk30 := fun o => hb3.cell (p := ⟨w.heap.size, o, none⟩) (by first | omega | (simp <;> omega))
      have hg30 := fun o => hb3.frozen (p := ⟨w.heap.size, o, none⟩) (by first | omega | (simp <;> omega))
      by_cases h3 : 0 ≤ z3
      · obtain ⟨hnp, hpl⟩ := hp3 h3
        have hz3 : ¬ z3 < 0 := by omega
        have HNP := Lib.hid hnp
        have HPL := Lib.hid hpl
        have HZ3 := Lib.hid hu3
        have H3 := Lib.hid h3
        clear hp3 hnp hpl hu3
        go_wp2_with fail
        refine (szProf_any L nl cl _ _ H3.out (by have := HZ3.out; have := E2.out; have := HLE.out; omega) HX.out.nl).mono ?_
        rintro e w4 ⟨rfl, hb4⟩
        have hs4 := hb4.size
        (try simp at hs4)
        have hy40 : w.heap.size < w4.heap.size := by omega
        have hk40 := fun o => hb4.cell (p := ⟨w.heap.size, o, none⟩) (by first | omega | (simp <;> omega))
        have hg40 := fun o => hb4.frozen (p := ⟨w.heap.size, o, none⟩) (by first | omega | (simp <;> omega))
        by_cases h4 : 0 ≤ szOf z3 nl
        · have hz4 : ¬ szOf z3 nl < 0 := by omega
          obtain ⟨hnl, e4⟩ := szOf_pos h4
          have HNL := Lib.hid hnl
          clear e4 hnl
          go_wp2
          go_ret
          refine ⟨_, rfl, Or.inr ⟨h4, ⟨HN.out, HM.out, ?_, HNP.out, ?_, HPL.out⟩⟩, (by repeat (first | exact Below.refl _ _ | assumption | (refine bstep ?_ (below_drewN _ _)) | exact bstep (by assumption) (by assumption) | (refine bstep ?_ (below_alloc _ _)) | (refine bstep ?_ (by assumption)) | (refine Below.setCell ?_ (by simp <;> omega) _) | refine Below.drew ?_))⟩
          · show nu ≤ 1048576
            have := HU.out; have := HLE.out; omega
          · show nl ≤ 1048576
            have := HNL.out; have := HZ3.out; have := E2.out; have := HLE.out; omega
        · have hz4 : szOf z3 nl < 0 := by omega
          go_wp2
          go_ret
          exact ⟨_, rfl, Or.inl (by omega), (by repeat (first | exact Below.refl _ _ | assumption | (refine bstep ?_ (below_drewN _ _)) | exact bstep (by assumption) (by assumption) | (refine bstep ?_ (below_alloc _ _)) | (refine bstep ?_ (by assumption)) | (refine Below.setCell ?_ (by simp <;> omega) _) | refine Below.drew ?_))⟩
      · have hz3 : z3 < 0 := by omega
        go_wp2
        go_ret
        exact ⟨_, rfl, Or.inl (by omega), (by repeat (first | exact Below.refl _ _ | assumption | (refine bstep ?_ (below_drewN _ _)) | exact bstep (by assumption) (by assumption) | (refine bstep ?_ (below_alloc _ _)) | (refine bstep ?_ (by assumption)) | (refine Below.setCell ?_ (by simp <;> omega) _) | refine Below.drew ?_))⟩
    · have hz2 : szOf (szT n m) nu < 0 := by omega
      have HLE := Lib.hid hle
      have H1 := Lib.hid h1
      clear h1 h2 hn hm hle
      go_enter Try.func94, Try.ntmps94
      go_wp2_with fail
      refine (szTopo_any A B n c m d _ HX.out.n HX.out.m).mono ?_
      rintro e w1 ⟨rfl, hb1⟩
      have hs1 := hb1.size
      (try simp at hs1)
      have hy10 : w.heap.size < w1.heap.size := by omega
      have hk10 := fun o => hb1.cell (p := ⟨w.heap.size, o, none⟩) (by first | omega | (simp <;> omega))
      have hg10 := fun o => hb1.frozen (p := ⟨w.heap.size, o, none⟩) (by first | omega | (simp <;> omega))
      go_wp2_with fail
      refine (szBoolS_any U nu cu _ _ H1.out (by have := HLE.out; omega) HX.out.nu).mono ?_
      rintro e w2 ⟨rfl, rfl⟩
      go_wp2
      go_ret
      exact ⟨_, rfl, Or.inl (by omega), (by repeat (first | exact Below.refl _ _ | assumption | (refine bstep ?_ (below_drewN _ _)) | exact bstep (by assumption) (by assumption) | (refine bstep ?_ (below_alloc _ _)) | (refine bstep ?_ (by assumption)) | (refine Below.setCell ?_ (by simp <;> omega) _) | refine Below.drew ?_))⟩
  · have hz1 : szT n m < 0 := by omega
    go_enter Try.func94, Try.ntmps94
    go_wp2_with fail
    refine (szTopo_any A B n c m d _ HX.out.n HX.out.m).mono ?_
    rintro e w1 ⟨rfl, hb1⟩
    have hs1 := hb1.size
    (try simp at hs1)
    have hy10 : w.heap.size < w1.heap.size := by omega
    have hk10 := fun o => hb1.cell (p := ⟨w.heap.size, o, none⟩) (by first | omega | (simp <;> omega))
    have hg10 := fun o => hb1.frozen (p := ⟨w.heap.size, o, none⟩) (by first | omega | (simp <;> omega))
    go_wp2
    go_ret
    exact ⟨_, rfl, Or.inl (by omega), (by repeat (first | exact Below.refl _ _ | assumption | (refine bstep ?_ (below_drewN _ _)) | exact bstep (by assumption) (by assumption) | (refine bstep ?_ (below_alloc _ _)) | (refine bstep ?_ (by assumption)) | (refine Below.setCell ?_ (by simp <;> omega) _) | refine Below.drew ?_))⟩

set_option maxHeartbeats 8000000 in
theorem toRoom_any (a : RA) (r : Rm) (w : World) (hx : RmSz a r) (hr : RoomIn w a r) :
    Calls Try.prog 96 #[a.v] w fun e w' => ∃ a' xs, e = .returned (RA.v a') ∧ RoomOwn w' w.heap.size a' r xs ∧ Below w.heap.size w w' := by
  obtain ⟨A, B, U, R, L, n, m, nu, np, nl, c, d, cu, cp, cl⟩ := a
  dsimp only [RA.v]
  have HX := Lib.hid hx
  have HR := Lib.hid hr
  clear hx hr
  go_enter Try.func96, Try.ntmps96
  go_wp2_with fail
  refine (toTopo_any A B n c m d r.par r.nodes _ HX.out.n HX.out.m (HR.out.par.below (by repeat (first | exact Below.refl _ _ | assumption | (refine bstep ?_ (below_drewN _ _)) | exact bstep (by assumption) (by assumption) | (refine bstep ?_ (below_alloc _ _)) | (refine bstep ?_ (by assumption)) | (refine Below.setCell ?_ (by simp <;> omega) _) | refine Below.drew ?_))) (HR.out.nodes.below (by repeat (first | exact Below.refl _ _ | assumption | (refine bstep ?_ (below_drewN _ _)) | exact bstep (by assumption) (by assumption) | (refine bstep ?_ (below_alloc _ _)) | (refine bstep ?_ (by assumption)) | (refine Below.setCell ?_ (by simp <;> omega) _) | refine Below.drew ?_)))).mono ?_
  rintro e w1 ⟨u1, v1, rfl, owa1, owb1, hb1⟩
  have hs1 := hb1.size
  (try simp at hs1)
  have hy10 : w.heap.size < w1.heap.size := by omega
  have hk10 := fun o => hb1.cell (p := ⟨w.heap.size, o, none⟩) (by first | omega | (simp <;> omega))
  have hg10 := fun o => hb1.frozen (p := ⟨w.heap.size, o, none⟩) (by first | omega | (simp <;> omega))
  have hy11 : w.heap.size + 1 < w1.heap.size := by omega
  have hk11 := fun o => hb1.cell (p := ⟨w.heap.size + 1, o, none⟩) (by first | omega | (simp <;> omega))
  have hg11 := fun o => hb1.frozen (p := ⟨w.heap.size + 1, o, none⟩) (by first | omega | (simp <;> omega))
  have hy12 : w.heap.size + 1 + 1 < w1.heap.size := by omega
  have hk12 := fun o => hb1.cell (p := ⟨w.heap.size + 1 + 1, o, none⟩) (by first | omega | (simp <;> omega))
  have hg12 := fun o => hb1.frozen (p := ⟨w.heap.size + 1 + 1, o, none⟩) (by first | omega | (simp <;> omega))
  obtain ⟨A1, Ac1, rfl, rdA1⟩ := own_rd owa1
  clear rdA1
  have OA1 := Lib.hid owa1
  clear owa1
  obtain ⟨B1, Bc1, rfl, rdB1⟩ := own_rd owb1
  clear rdB1
  have OB1 := Lib.hid owb1
  clear owb1
  go_wp2_with fail
  refine (toBoolS_any U nu cu r.up _ HX.out.nu (HR.out.up.below (by repeat (first | exact Below.refl _ _ | assumption | (refine bstep ?_ (below_drewN _ _)) | exact bstep (by assumption) (by assumption) | (refine bstep ?_ (below_alloc _ _)) | (refine bstep ?_ (by assumption)) | (refine Below.setCell ?_ (by simp <;> omega) _) | refine Below.drew ?_)))).mono ?_
  rintro e w2 ⟨v2, rfl, own2, hb2⟩
  have hs2 := hb2.size
  (try simp at hs2)
  have hy20 : w.heap.size < w2.heap.size := by omega
  have hk20 := fun o => hb2.cell (p := ⟨w.heap.size, o, none⟩) (by first | omega | (simp <;> omega))
  have hg20 := fun o => hb2.frozen (p := ⟨w.heap.size, o, none⟩) (by first | omega | (simp <;> omega))
  have hy21 : w.heap.size + 1 < w2.heap.size := by omega
  have hk21 := fun o => hb2.cell (p := ⟨w.heap.size + 1, o, none⟩) (by first | omega | (simp <;> omega))
  have hg21 := fun o => hb2.frozen (p := ⟨w.heap.size + 1, o, none⟩) (by first | omega | (simp <;> omega))
  have hy22 : w.heap.size + 1 + 1 < w2.heap.size := by omega
  have hk22 := fun o => hb2.cell (p := ⟨w.heap.size + 1 + 1, o, none⟩) (by first | omega | (simp <;> omega))
  have hg22 := fun o => hb2.frozen (p := ⟨w.heap.size + 1 + 1, o, none⟩) (by first | omega | (simp <;> omega))
  obtain ⟨U2, Uc2, rfl, rdU2⟩ := own_rd own2
  clear rdU2
  have OU2 := Lib.hid own2
  clear own2
  have OA2 := Lib.hid (own_bel (ownsRow_setCell_below (ownsRow_setCell_below OA1.out (a := ⟨w.heap.size + 1 + 1, 0, none⟩) (by simp <;> omega) (.slice A1 n Ac1)) (a := ⟨w.heap.size + 1 + 1, 1, none⟩) (by simp <;> omega) (.slice B1 m Bc1)) hb2)
  have OB2 := Lib.hid (own_bel (ownsRow_setCell_below (ownsRow_setCell_below OB1.out (a := ⟨w.heap.size + 1 + 1, 0, none⟩) (by simp <;> omega) (.slice A1 n Ac1)) (a := ⟨w.heap.size + 1 + 1, 1, none⟩) (by simp <;> omega) (.slice B1 m Bc1)) hb2)
  go_wp2_with fail
  refine (toProfS_any R np cp r.profs _ HX.out.np HX.out.profs (HR.out.profs.below (by repeat (first | exact Below.refl _ _ | assumption | (refine bstep ?_ (below_drewN _ _)) | exact bstep (by assumption) (by assumption) | (refine bstep ?_ (below_alloc _ _)) | (refine bstep ?_ (by assumption)) | (refine Below.setCell ?_ (by simp <;> omega) _) | refine Below.drew ?_)))).mono ?_
  rintro e w3 ⟨v3, xs, rfl, own3, hb3⟩
  have hs3 := hb3.size
  (try simp at hs3)
  have hy30 : w.heap.size < w3.heap.size := by omega
  have hk30 := fun o => hb3.cell (p := ⟨w.heap.size, o, none⟩) (by first | omega | (simp <;> omega))
  have hg30 := fun o => hb3.frozen (p := ⟨w.heap.size, o, none⟩) (by first | omega | (simp <;> omega))
  have hy31 : w.heap.size + 1 < w3.heap.size := by omega
  have hk31 := fun o => hb3.cell (p := ⟨w.heap.size + 1, o, none⟩) (by first | omega | (simp <;> omega))
  have hg31 := fun o => hb3.frozen (p := ⟨w.heap.size + 1, o, none⟩) (by first | omega | (simp <;> omega))
  have hy32 : w.heap.size + 1 + 1 < w3.heap.size := by omega
  have hk32 := fun o => hb3.cell (p := ⟨w.heap.size + 1 + 1, o, none⟩) (by first | omega | (simp <;> omega))
  have hg32 := fun o => hb3.frozen (p := ⟨w.heap.size + 1 + 1, o, none⟩) (by first | omega | (simp <;> omega))
  obtain ⟨R3, Rc3, rfl, -, -⟩ := own3.rd
  have OP3 := Lib.hid own3
  clear own3
  have OA3 := Lib.hid (own_bel (ownsRow_setCell_below OA2.out (a := ⟨w.heap.size + 1 + 1, 2, none⟩) (by simp <;> omega) (.slice U2 nu Uc2)) hb3)
  have OB3 := Lib.hid (own_bel (ownsRow_setCell_below OB2.out (a := ⟨w.heap.size + 1 + 1, 2, none⟩) (by simp <;> omega) (.slice U2 nu Uc2)) hb3)
  have OU3 := Lib.hid (own_bel (ownsRow_setCell_below OU2.out (a := ⟨w.heap.size + 1 + 1, 2, none⟩) (by simp <;> omega) (.slice U2 nu Uc2)) hb3)
  go_upto_region 5 with fail
  go_cut [] (fun wr => (∃ L4 Lc4, (wr.cell? ⟨w.heap.size + 1 + 1, 0, none⟩ = some (.slice A1 n Ac1) ∧ wr.cell? ⟨w.heap.size + 1 + 1, 1, none⟩ = some (.slice B1 m Bc1) ∧ wr.cell? ⟨w.heap.size + 1 + 1, 2, none⟩ = some (.slice U2 nu Uc2) ∧ wr.cell? ⟨w.heap.size + 1 + 1, 3, none⟩ = some (.slice R3 np Rc3) ∧ wr.cell? ⟨w.heap.size + 1 + 1, 4, none⟩ = some (.slice L4 nl Lc4)) ∧ RoomOwn wr (w.heap.size + 1 + 1 + 1) ⟨A1, B1, U2, R3, L4, n, m, nu, np, nl, Ac1, Bc1, Uc2, Rc3, Lc4⟩ r xs) ∧ (∀ k, k < 5 → (wr.cell? ⟨w.heap.size + 1, k, none⟩).isSome = true) ∧ (∀ k, wr.frozen? ⟨w.heap.size + 1, k, none⟩ = false) ∧ Below w.heap.size w wr)
  case first =>
    go_wp2_with fail
    refine (toProf_any L nl cl r.lics _ HX.out.nl (HR.out.lics.below (by repeat (first | exact Below.refl _ _ | assumption | (refine bstep ?_ (below_drewN _ _)) | exact bstep (by assumption) (by assumption) | (refine bstep ?_ (below_alloc _ _)) | (refine bstep ?_ (by assumption)) | (refine Below.setCell ?_ (by simp <;> omega) _) | refine Below.drew ?_)))).mono ?_
    rintro e w4 ⟨v4, rfl, own4, hb4⟩
    have hs4 := hb4.size
    (try simp at hs4)
    have hy40 : w.heap.size < w4.heap.size := by omega
    have hk40 := fun o => hb4.cell (p := ⟨w.heap.size, o, none⟩) (by first | omega | (simp <;> omega))
    have hg40 := fun o => hb4.frozen (p := ⟨w.heap.size, o, none⟩) (by first | omega | (simp <;> omega))
    have hy41 : w.heap.size + 1 < w4.heap.size := by omega
    have hk41 := fun o => hb4.cell (p := ⟨w.heap.size + 1, o, none⟩) (by first | omega | (simp <;> omega))
    have hg41 := fun o => hb4.frozen (p := ⟨w.heap.size + 1, o, none⟩) (by first | omega | (simp <;> omega))
    have hy42 : w.heap.size + 1 + 1 < w4.heap.size := by omega
    have hk42 := fun o => hb4.cell (p := ⟨w.heap.size + 1 + 1, o, none⟩) (by first | omega | (simp <;> omega))
    have hg42 := fun o => hb4.frozen (p := ⟨w.heap.size + 1 + 1, o, none⟩) (by first | omega | (simp <;> omega))
    obtain ⟨L4, Lc4, rfl, rdL4⟩ := own_rd own4
    clear rdL4
    have OL4 := Lib.hid own4
    clear own4
    have OA4 := Lib.hid (own_bel (ownsRow_setCell_below OA3.out (a := ⟨w.heap.size + 1 + 1, 3, none⟩) (by simp <;> omega) (.slice R3 np Rc3)) hb4)
    have OB4 := Lib.hid (own_bel (ownsRow_setCell_below OB3.out (a := ⟨w.heap.size + 1 + 1, 3, none⟩) (by simp <;> omega) (.slice R3 np Rc3)) hb4)
    have OU4 := Lib.hid (own_bel (ownsRow_setCell_below OU3.out (a := ⟨w.heap.size + 1 + 1, 3, none⟩) (by simp <;> omega) (.slice R3 np Rc3)) hb4)
    have OP4 := Lib.hid ((OP3.out.setBelow (a := ⟨w.heap.size + 1 + 1, 3, none⟩) (by simp <;> omega) (.slice R3 np Rc3)).bel hb4)
    have hap : ∀ (i : Nat) x, xs[i]? = some x → ∀ b, x.ownBlock = some b → ¬ atB L4 b := by
      intro i x hx b hxb hL
      have hil : i < r.profs.length := by have e1 := (List.getElem?_eq_some_iff.1 hx).1; have e2 := OP3.out.len; have e3 := OP3.out.xlen; omega
      have e1 := own_lt ((OP3.out.each i x _ hx (List.getElem?_eq_getElem hil)).2) b hxb
      have e2 := (own_rng OL4.out b hL).1
      simp at e2
      omega
    have HAP := Lib.hid hap
    clear hap
    go_wp2
    go_meet
    case rel =>
      refine ⟨⟨L4, Lc4, by simp [go_sem, *], HX.out.n, HX.out.m, HX.out.nu, HX.out.np, HX.out.nl, ?_, ?_, ?_, ?_, ?_, HAP.out⟩, ?_, ?_, (by repeat (first | exact Below.refl _ _ | assumption | (refine bstep ?_ (below_drewN _ _)) | exact bstep (by assumption) (by assumption) | (refine bstep ?_ (below_alloc _ _)) | (refine bstep ?_ (by assumption)) | (refine Below.setCell ?_ (by simp <;> omega) _) | refine Below.drew ?_))⟩
      · exact own_mono (ownsRow_setCell_below OA4.out (a := ⟨w.heap.size + 1 + 1, 4, none⟩) (by simp <;> omega) (.slice L4 nl Lc4)) (by simp <;> omega)
      · exact own_mono (ownsRow_setCell_below OB4.out (a := ⟨w.heap.size + 1 + 1, 4, none⟩) (by simp <;> omega) (.slice L4 nl Lc4)) (by simp <;> omega)
      · exact own_mono (ownsRow_setCell_below OU4.out (a := ⟨w.heap.size + 1 + 1, 4, none⟩) (by simp <;> omega) (.slice L4 nl Lc4)) (by simp <;> omega)
      · exact (OP4.out.setBelow (a := ⟨w.heap.size + 1 + 1, 4, none⟩) (by simp <;> omega) (.slice L4 nl Lc4)).mono (by simp <;> omega)
      · exact own_mono (ownsRow_setCell_below OL4.out (a := ⟨w.heap.size + 1 + 1, 4, none⟩) (by simp <;> omega) (.slice L4 nl Lc4)) (by simp <;> omega)
      · intro k hk
        match k, hk with
        | 0, _ | 1, _ | 2, _ | 3, _ | 4, _ => simp [go_sem, *]
      · intro k
        simp [go_sem, *]
  case rest =>
    obtain ⟨⟨L4, Lc4, ⟨c0, c1, c2, c3, c4⟩, hown⟩, he, hf, hb⟩ := hcut
    have HO := Lib.hid hown
    have hE := Lib.hid he
    have e0 := he 0 (by omega); have e1 := he 1 (by omega); have e2 := he 2 (by omega); have e3 := he 3 (by omega); have e4 := he 4 (by omega)
    obtain ⟨o0, e0⟩ := Option.isSome_iff_exists.1 e0; obtain ⟨o1, e1⟩ := Option.isSome_iff_exists.1 e1; obtain ⟨o2, e2⟩ := Option.isSome_iff_exists.1 e2; obtain ⟨o3, e3⟩ := Option.isSome_iff_exists.1 e3; obtain ⟨o4, e4⟩ := Option.isSome_iff_exists.1 e4
    clear he hown
    go_wp2
    have hin := World.cell?_setCells_in (w.heap.size + 1) ([.slice A1 n Ac1, .slice B1 m Bc1, .slice U2 nu Uc2, .slice R3 np Rc3, .slice L4 nl Lc4] : List Value) 0 wc (fun k hk => by simpa using hE.out k (by simpa using hk))
    have hbw := below_setCells (w.heap.size + 1) (by omega) ([.slice A1 n Ac1, .slice B1 m Bc1, .slice U2 nu Uc2, .slice R3 np Rc3, .slice L4 nl Lc4] : List Value) 0 wc hb
    have hro := RoomOwn.setCells (b := w.heap.size + 1) (by omega) ([.slice A1 n Ac1, .slice B1 m Bc1, .slice U2 nu Uc2, .slice R3 np Rc3, .slice L4 nl Lc4] : List Value) 0 HO.out
    change bodyPost _ _ _ _ _ (wc.setCells (w.heap.size + 1) 0 ([.slice A1 n Ac1, .slice B1 m Bc1, .slice U2 nu Uc2, .slice R3 np Rc3, .slice L4 nl Lc4] : List Value))
    have f0 := hin 0 (by simp); have f1 := hin 1 (by simp); have f2 := hin 2 (by simp); have f3 := hin 3 (by simp); have f4 := hin 4 (by simp)
    generalize wc.setCells (w.heap.size + 1) 0 ([.slice A1 n Ac1, .slice B1 m Bc1, .slice U2 nu Uc2, .slice R3 np Rc3, .slice L4 nl Lc4] : List Value) = W at *
    simp only [Nat.zero_add, List.getElem_cons_zero, List.getElem_cons_succ, Nat.reduceAdd] at f0 f1 f2 f3 f4
    clear hin hE
    exact bodyPost_ret (v := .agg #[.slice A1 n Ac1, .slice B1 m Bc1, .slice U2 nu Uc2, .slice R3 np Rc3, .slice L4 nl Lc4]) (by simp [results, Try.results96, go_sem, f0, f1, f2, f3, f4]) rfl ⟨⟨A1, B1, U2, R3, L4, n, m, nu, np, nl, Ac1, Bc1, Uc2, Rc3, Lc4⟩, xs, rfl, hro.mono (by omega), hbw⟩
end Go.Proofs.Ytjnfdcojccgfoaa
