import Derived.Test.YtnphjhbfpoekpaaGreatEdPh
import Derived.Test.YtnphjhbfpoekpaaGreatHePh
import Derived.Test.YtnphjhbfpoekpaaGreatProg
import Derived.Shelf.SlGeneric
import Derived.Ground.SlgmProg
import Derived.Ground.SlgnProg
import Derived.Ground.SlsfProg
import Derived.Ground.NamesProg
import Derived.Shelf.SlSortCmp.Whole1
import Derived.Shelf.SlSortCmp.WholeK
import Derived.Shelf.SlSortCmp.NoneTotal
namespace Go.Proofs.YtnphjhbfpoekpaaGreat
set_option linter.unusedSimpArgs false
set_option linter.unusedVariables false
set_option linter.unnecessarySimpa false
open Go.RowKit
theorem own_cap9g {w : World} {lo : Nat} {e : TypeId} {size : Nat} {A : Option Addr} {n c : Nat} {xs : List Value} (h : w.ownsRow lo e size (.slice A n c) n xs) : n ≤ c ∧ c ≤ 9223372036854775807 := by
 rcases h.2 with ⟨h0, h1⟩ | ⟨g, cap, cur, hv, _, _, h3, h4, _⟩
 ·cases h0; omega
 ·cases hv; unfold maxLen at h4; exact ⟨h3, h4⟩
theorem earl_len9 (r : Rm) (j : J) (f : Int) : (eL (earlV r j f)).length ≤ 24 := by
 unfold eL
 cases h : earlV r j f with
 | none => simp
 | some p =>
  obtain ⟨t, nd⟩ := p
  obtain ⟨hr, hj, _, _, ht, _⟩ := earl_some h
  obtain ⟨_, _, n1, n2, _, _⟩ := job_wl hj
  unfold tryV at ht
  split at ht
  ·obtain ⟨_, _, _, _, hlen, _⟩ := choose_some (elig_in hr).2.1 ht
   show nd.length ≤ 24
   omega
  ·cases ht
def farV (ss tt : List Value) : Prop := ∀ (i j : Nat) x y, ss[i]? = some x → tt[j]? = some y → ∀ b, x.ownBlock = some b → y.ownBlock ≠ some b
structure PN (w wr : World) (b : Nat) (a : RA) (r : Rm) (X Y : Value) (ss tt : List Value) (s : PS) : Prop where
 bx : wr.heap[b]? = some (.cells #[.slice a.A a.n a.c, .slice a.B a.m a.d, .slice a.U a.nu a.cu, .slice a.R a.np a.cp, .slice a.L a.nl a.cl] 33 (0, 0))
 own : ∃ lo xs, RoomOwn wr lo a r xs
 rm : s.r = r
 st : OwnH wr w.heap.size X s.a.length ss s.a
 la : OwnH wr w.heap.size Y s.b.length tt s.b
 row : ∀ k, X.ownBlock = some k → Y.ownBlock ≠ some k
 far : farV ss tt
 bel : Below w.heap.size w wr
 hb : w.heap.size ≤ b
theorem PN.step {w wr w' : World} {b : Nat} {a : RA} {r : Rm} {X Y : Value} {ss tt : List Value} {s : PS} (h : PN w wr b a r X Y ss tt s) (hb : Below wr.heap.size wr w') : PN w w' b a r X Y ss tt s := by
 obtain ⟨lo, xs, ho⟩ := h.own
 exact ⟨zAf h.bx hb, ⟨lo, xs, ho.bel hb⟩, h.rm, h.st.bel hb, h.la.bel hb, h.row, h.far, zAc h.bel hb, h.hb⟩
theorem OwnH.box {w : World} {lo : Nat} {v : Value} {n : Nat} {ss : List Value} {hs : List Hd} (h : OwnH w lo v n ss hs) {b : Nat} {vs : Array Value} {f : Nat × Nat} (hb : w.heap[b]? = some (.cells vs 33 f)) (v0 v1 v2 v3 v4 : Value) : OwnH (((((w.setCell ⟨b, 0, none⟩ v0).setCell ⟨b, 1, none⟩ v1).setCell ⟨b, 2, none⟩ v2).setCell ⟨b, 3, none⟩ v3).setCell ⟨b, 4, none⟩ v4) lo v n ss hs :=
 ⟨own_set5 h.own hb (by decide) _ _ _ _ _, h.len, h.slen, fun k x p a c => ⟨(h.each k x p a c).1, own_set5 (h.each k x p a c).2 hb (by decide) _ _ _ _ _⟩, h.apart⟩
theorem PN.room {w wr : World} {b : Nat} {a a' : RA} {r r' : Rm} {X Y : Value} {ss tt : List Value} {s : PS} {lo : Nat} {xs : List Value} (h : PN w wr b a r X Y ss tt s) (ho : RoomOwn wr lo a' r' xs) :
  PN w (((((wr.setCell ⟨b, 0, none⟩ (.slice a'.A a'.n a'.c)).setCell ⟨b, 1, none⟩ (.slice a'.B a'.m a'.d)).setCell ⟨b, 2, none⟩ (.slice a'.U a'.nu a'.cu)).setCell ⟨b, 3, none⟩ (.slice a'.R a'.np a'.cp)).setCell ⟨b, 4, none⟩ (.slice a'.L a'.nl a'.cl)) b a' r' X Y ss tt { s with r := r' } :=
 ⟨set5 h.bx, ⟨lo, xs, ho.box5 h.bx _ _ _ _ _⟩, rfl, h.st.box h.bx _ _ _ _ _, h.la.box h.bx _ _ _ _ _, h.row, h.far, bel_set5 h.bel h.hb _ _ _ _ _, h.hb⟩
theorem OwnH.grown {w w' : World} {lo : Nat} {v : Value} {n : Nat} {ss : List Value} {hs : List Hd} (h : OwnH w lo v n ss hs) {row : Option Nat} (hg : w.grownBy w' row) (h1 : ∀ k, v.ownBlock = some k → row ≠ some k) (h2 : ∀ (i : Nat) x, ss[i]? = some x → ∀ k, x.ownBlock = some k → row ≠ some k) : OwnH w' lo v n ss hs :=
 ⟨zAx h.own hg h1, h.len, h.slen, fun k x p a c => ⟨(h.each k x p a c).1, zAx (h.each k x p a c).2 hg (h2 k x a)⟩, h.apart⟩
theorem RoomOwn.grownH {w w' : World} {lo lo' : Nat} {a : RA} {r : Rm} {xs : List Value} {X : Value} {n : Nat} {ss : List Value} {hs : List Hd} (h : RoomOwn w lo a r xs) (hx : OwnH w lo' X n ss hs) (hg : w.grownBy w' X.ownBlock) : RoomOwn w' lo a r xs :=
 have q : ∀ {e : TypeId} {size n : Nat} {v : Value} {ys : List Value}, w.ownsRow lo e size v n ys → e ≠ 41 → w'.ownsRow lo e size v n ys := fun hh he => zAx hh hg (fun j hj => own_ap hh hx.own he j hj)
 ⟨h.n, h.m, h.nu, h.np, h.nl, q h.par (by decide), q h.nodes (by decide), q h.up (by decide), ⟨q h.profs.own (by decide), h.profs.len, fun k y ps h1 h2 => ⟨(h.profs.each k y ps h1 h2).1, q (h.profs.each k y ps h1 h2).2 (by decide)⟩, h.profs.apart⟩, q h.lics (by decide), h.apart⟩
theorem PN.start {w wr w1 : World} {b : Nat} {a : RA} {r : Rm} {X Y X' x : Value} {ss tt : List Value} {s : PS} {p : Hd} {lo : Nat} (h : PN w wr b a r X Y ss tt s) (ho : w1.ownsRow w.heap.size 41 3 X' (s.a.length + 1) (hcells s.a ss ++ [.int .i64 p.id, .int .i64 p.at_, x])) (hg : wr.grownBy w1 X.ownBlock) (hat : X'.ownBlock = X.ownBlock ∨ X'.ownBlock = some wr.heap.size)
  (hx : wr.ownsRow lo 3 1 x p.nd.length (ints p.nd)) (hlo : w.heap.size ≤ lo) (hl : p.nd.length ≤ 1048576) (hfs : ∀ (i : Nat) y, ss[i]? = some y → ∀ b, y.ownBlock = some b → b < lo) (hft : ∀ (i : Nat) y, tt[i]? = some y → ∀ b, y.ownBlock = some b → b < lo) :
  PN w w1 b a r X' Y (ss ++ [x]) tt { s with a := s.a ++ [p] } := by
 obtain ⟨lo9, xs, hro⟩ := h.own
 have e2 := h.st.slen
 refine ⟨zAp h.bx hg (zAk h.st.own h.bx (by decide)), ⟨lo9, xs, hro.grownH h.st hg⟩, h.rm, ?_, h.la.grown hg (fun k hk e => h.row k e hk) (fun i y hi k hk e => by
   obtain ⟨q, hq⟩ : ∃ q, s.b[i]? = some q := ⟨_, zgh (by have := h.la.slen; have := (List.getElem?_eq_some_iff.1 hi).1; omega)⟩
   exact own_ap (h.la.each i y q hi hq).2 h.st.own (by decide) k hk e), fun k hk e => ?_, ?_, Below.grown h.bel hg h.bel.size (zAu h.st.own), h.hb⟩
 ·have := h.st.app (p := p) ho hg (zAm hx hlo) hl (fun i y hi b9 hb hb2 => by have q1 := hfs i y hi b9 hb; have q2 := zAu hx b9 hb2; omega)
  simpa using this
 ·rcases hat with h9 | h9
  ·rw [h9] at hk; exact h.row k hk e
  ·rw [h9] at hk
   injection hk with hk
   have := own_lt h.la.own k e
   omega
 ·intro i j y z hi hj b9 hb9 hb8
  by_cases hin : i < ss.length
  ·rw [List.getElem?_append_left hin] at hi
   exact h.far i j y z hi hj b9 hb9 hb8
  ·rw [List.getElem?_append_right (by omega)] at hi
   have h3 : x = y := by
    have h9 : i - ss.length = 0 := by have := (List.getElem?_eq_some_iff.1 hi).1; simp at this; omega
    rw [h9] at hi; simpa using hi
   subst h3
   have q1 := hft j z hj b9 hb8
   have q2 := zAu hx b9 hb9
   omega
theorem farV.symm {ss tt : List Value} (h : farV ss tt) : farV tt ss := fun i j x y hi hj b hb hb2 => h j i y x hj hi b hb2 hb
theorem PN.swap {w wr : World} {b : Nat} {a : RA} {r : Rm} {X Y : Value} {ss tt : List Value} {s : PS} (h : PN w wr b a r X Y ss tt s) : PN w wr b a r Y X tt ss ⟨s.r, s.b, s.a⟩ :=
 ⟨h.bx, h.own, h.rm, h.la, h.st, fun k hk e => h.row k e hk, h.far.symm, h.bel, h.hb⟩
theorem PN.later {w wr w1 : World} {b : Nat} {a : RA} {r : Rm} {X Y Y' x : Value} {ss tt : List Value} {s : PS} {p : Hd} {lo : Nat} (h : PN w wr b a r X Y ss tt s) (ho : w1.ownsRow w.heap.size 41 3 Y' (s.b.length + 1) (hcells s.b tt ++ [.int .i64 p.id, .int .i64 p.at_, x])) (hg : wr.grownBy w1 Y.ownBlock) (hat : Y'.ownBlock = Y.ownBlock ∨ Y'.ownBlock = some wr.heap.size)
  (hx : wr.ownsRow lo 3 1 x p.nd.length (ints p.nd)) (hlo : w.heap.size ≤ lo) (hl : p.nd.length ≤ 1048576) (hfs : ∀ (i : Nat) y, ss[i]? = some y → ∀ b, y.ownBlock = some b → b < lo) (hft : ∀ (i : Nat) y, tt[i]? = some y → ∀ b, y.ownBlock = some b → b < lo) :
  PN w w1 b a r X Y' ss (tt ++ [x]) { s with b := s.b ++ [p] } :=
 (h.swap.start (p := p) ho hg hat hx hlo hl hft hfs).swap
end Go.Proofs.YtnphjhbfpoekpaaGreat
namespace Go.Proofs
open Go.Shelf
def Tryz.sortJ_ren : Go.Shelf.Ren := ⟨fun | 6 => 136 | 15 => 195 | 14 => 194 | 28 => 227 | 29 => 228 | 20 => 219 | 21 => 220 | 22 => 221 | 23 => 222 | 24 => 223 | 25 => 224 | 26 => 225 | 27 => 226 | 46 => 248 | 47 => 249 | 48 => 250 | 49 => 251 | 50 => 252 | 57 => 266 | n => n, fun | 22 => 34 | 24 => 95 | 25 => 175 | 3 => 3 | 39 => 224 | 0 => 0 | 53 => 250 | 55 => 252 | 4 => 4 | 46 => 243 | 45 => 242 | 50 => 247 | 5 => 5 | 9 => 9 | 66 => 263 | 70 => 267 | 76 => 276 | 77 => 277 | n => n, fun | n => n⟩
theorem Tryz.sortJ : Go.Proofs.SlLaysF0.n6 Tryz.prog Tryz.sortJ_ren := {
 mixed := by kernel_rfl
 f6 := ⟨Tryz.f136.name, by decide, Tryz.func136.trans (congrArg some (by kernel_rfl))⟩
 f14 := ⟨Tryz.f194.name, by decide, Tryz.func194.trans (congrArg some (by kernel_rfl))⟩
 f15 := Tryz.func195.trans (congrArg some (by kernel_rfl))
 f20 := ⟨Tryz.f219.name, by decide, Tryz.func219.trans (congrArg some (by kernel_rfl))⟩
 f21 := ⟨Tryz.f220.name, by decide, Tryz.func220.trans (congrArg some (by kernel_rfl))⟩
 f22 := ⟨Tryz.f221.name, by decide, Tryz.func221.trans (congrArg some (by kernel_rfl))⟩
 f23 := ⟨Tryz.f222.name, by decide, Tryz.func222.trans (congrArg some (by kernel_rfl))⟩
 f24 := ⟨Tryz.f223.name, by decide, Tryz.func223.trans (congrArg some (by kernel_rfl))⟩
 f25 := ⟨Tryz.f224.name, by decide, Tryz.func224.trans (congrArg some (by kernel_rfl))⟩
 f26 := ⟨Tryz.f225.name, by decide, Tryz.func225.trans (congrArg some (by kernel_rfl))⟩
 f27 := ⟨Tryz.f226.name, by decide, Tryz.func226.trans (congrArg some (by kernel_rfl))⟩
 f28 := Tryz.func227.trans (congrArg some (by kernel_rfl))
 f29 := Tryz.func228.trans (congrArg some (by kernel_rfl))
 f46 := ⟨Tryz.f248.name, by decide, Tryz.func248.trans (congrArg some (by kernel_rfl))⟩
 f47 := Tryz.func249.trans (congrArg some (by kernel_rfl))
 f48 := Tryz.func250.trans (congrArg some (by kernel_rfl))
 f49 := ⟨Tryz.f251.name, by decide, Tryz.func251.trans (congrArg some (by kernel_rfl))⟩
 f50 := ⟨Tryz.f252.name, by decide, Tryz.func252.trans (congrArg some (by kernel_rfl))⟩
 f57 := ⟨Tryz.f266.name, by decide, Tryz.func266.trans (congrArg some (by kernel_rfl))⟩
 t0 := Tryz.underlying0
 a0 := Tryz.isAgg0
 z0 := Tryz.sizeOf0
 v0 := Tryz.zeroValue0
 t3 := Tryz.underlying3
 a3 := Tryz.isAgg3
 z3 := Tryz.sizeOf3
 v3 := Tryz.zeroValue3
 t4 := Tryz.underlying4
 a4 := Tryz.isAgg4
 z4 := Tryz.sizeOf4
 v4 := Tryz.zeroValue4
 t5 := Tryz.underlying5
 a5 := Tryz.isAgg5
 z5 := Tryz.sizeOf5
 v5 := Tryz.zeroValue5
 t9 := Tryz.underlying9
 a9 := Tryz.isAgg9
 z9 := Tryz.sizeOf9
 v9 := Tryz.zeroValue9
 t22 := Tryz.underlying34
 a22 := Tryz.isAgg34
 z22 := Tryz.sizeOf34
 v22 := Tryz.zeroValue34
 t25 := Tryz.underlying175
 a25 := Tryz.isAgg175
 z25 := Tryz.sizeOf175
 v25 := Tryz.zeroValue175
 t39 := Tryz.underlying224
 a39 := Tryz.isAgg224
 z39 := Tryz.sizeOf224
 v39 := Tryz.zeroValue224
 t45 := Tryz.underlying242
 a45 := Tryz.isAgg242
 z45 := Tryz.sizeOf242
 v45 := Tryz.zeroValue242
 t46 := Tryz.underlying243
 a46 := Tryz.isAgg243
 z46 := Tryz.sizeOf243
 v46 := Tryz.zeroValue243
 t50 := Tryz.underlying247
 a50 := Tryz.isAgg247
 z50 := Tryz.sizeOf247
 v50 := Tryz.zeroValue247
 t53 := Tryz.underlying250
 a53 := Tryz.isAgg250
 z53 := Tryz.sizeOf250
 v53 := Tryz.zeroValue250
 t55 := Tryz.underlying252
 a55 := Tryz.isAgg252
 z55 := Tryz.sizeOf252
 v55 := Tryz.zeroValue252
 t66 := Tryz.underlying263
 a66 := Tryz.isAgg263
 z66 := Tryz.sizeOf263
 v66 := Tryz.zeroValue263
 t70 := Tryz.underlying267
 a70 := Tryz.isAgg267
 z70 := Tryz.sizeOf267
 v70 := Tryz.zeroValue267
 t76 := Tryz.underlying276
 a76 := Tryz.isAgg276
 z76 := Tryz.sizeOf276
 v76 := Tryz.zeroValue276
 t77 := Tryz.underlying277
 a77 := Tryz.isAgg277
 z77 := Tryz.sizeOf277
 v77 := Tryz.zeroValue277 }
end Go.Proofs
