import Derived.Test.YtnphjhbfpoekpaaGreatA8Pl
import Derived.Maps.AppendAt
import Derived.Laws.AppendOwnNone
import Derived.Deep.AppendLies
import Derived.Deep.RegionHeld3
import Derived.Test.YtnphjhbfpoekpaaGreatA6Pl
import Derived.Test.YtnphjhbfpoekpaaGreatA3Pl
import Derived.Test.YtnphjhbfpoekpaaGreatA2Pl
namespace Go.Proofs.YtnphjhbfpoekpaaGreat
set_option linter.unusedSimpArgs false
set_option linter.unusedVariables false
set_option linter.unnecessarySimpa false
open Go Go.RowKit
theorem run_append_row {P : Program} {w : World} (t ty : TypeId) (base : Nat) (e : TypeId) (i : TypeInfo) (z : Value) (size bytes : Nat) (ht : P.underlying t = some (.slice e)) (hi : P.info? e = some i) (hz : i.zero = some z)
  (hsize : i.size = size) (hby : i.bytes = bytes) (hzs : z.cells.size = size) (hsz : 0 < size)
  (v : Value) (n : Nat) (xs : List Value) (hown : w.ownsRow base e size v n xs)
  (X : Option Addr) (m c : Nat) (news : List Value) (hX : (X = none ∧ m = 0 ∧ c = 0) ∨ ∃ g, X = some ⟨g, 0, none⟩) (hrd : Rd w X m size news) (h1 : ∀ u ∈ news, u.oneCell' = true)
  (h63 : n + m ≤ maxLen) (hbytes : (n + m) * bytes ≤ 140737488355328) (hbase : base ≤ w.heap.size) :
  ∃ v' w', (Builtin.append_ #[t, t] ty #[v, .slice X m c]).run P w = .ok v' w' ∧ w'.ownsRow base e size v' (n + m) (xs ++ news) ∧ w.grownBy w' v.ownBlock ∧
   (v ≠ .slice none 0 0 → v' ≠ .slice none 0 0) ∧ (v'.ownBlock = v.ownBlock ∨ v'.ownBlock = some w.heap.size) := by
 rcases hX with ⟨rfl, rfl, rfl⟩ | ⟨g, rfl⟩
 ·have hn : news = [] := List.eq_nil_of_length_eq_zero (by have := hrd.1; omega)
  subst hn
  refine ⟨v, w, run_append_owned_none (P := P) w base t ty e i size ht hi v n xs hown, by simpa using hown, ⟨rfl, rfl, rfl, Nat.le_refl _, fun _ _ _ => rfl⟩, fun h => h, Or.inl rfl⟩
 ·have hnews : ∀ j u, news[j]? = some u → w.cell? ((⟨g, 0, none⟩ : Addr).add j) = some u := by
   intro j u hj
   have hjn : j < news.length := (List.getElem?_eq_some_iff.1 hj).1
   have hm : 0 < m := by
    rcases Nat.eq_zero_or_pos m with h | h
    ·subst h; have := hrd.1; omega
    ·exact h
   obtain ⟨g', hg', hc⟩ := hrd.2 hm
   cases hg'
   have e9 : (⟨g, 0, none⟩ : Addr).add j = ⟨g, j, none⟩ := by unfold Addr.add; by_cases h : j = 0 <;> simp [h]
   rw [e9]
   exact hc j u hj
  obtain ⟨v', w', h2, h3, h4, h5, h6⟩ := run_append_own_at (P := P) w base t ty e i z size bytes ht hi hz hsize hby hzs hsz v n xs hown ⟨g, 0, none⟩ m c news hrd.1 hnews h1 h63 hbytes hbase
  exact ⟨v', w', h2, h3, h4, fun h e => h (h5.1 e).1, h6⟩
theorem wp_append_row {P : Program} {w : World} {o : Oper} {a : Act} {K : Act → World → Prop} {Q : Exit → Act → World → Prop} (s x : Operand) (t : TypeId)
  (ho : o.op = .call { callee := .builtin .append, args := #[s, x], argTypes := #[t, t] })
  (base : Nat) (e : TypeId) (i : TypeInfo) (z : Value) (size bytes : Nat) (ht : P.underlying t = some (.slice e)) (hi : P.info? e = some i) (hz : i.zero = some z)
  (hsize : i.size = size) (hby : i.bytes = bytes) (hzs : z.cells.size = size) (hsz : 0 < size)
  (v : Value) (n : Nat) (xs : List Value) (hs : a.eval s = v) (hown : w.ownsRow base e size v n xs)
  (X : Option Addr) (m c : Nat) (news : List Value) (hx : a.eval x = .slice X m c) (hX : (X = none ∧ m = 0 ∧ c = 0) ∨ ∃ g, X = some ⟨g, 0, none⟩) (hrd : Rd w X m size news) (h1 : ∀ u ∈ news, u.oneCell' = true)
  (h63 : n + m ≤ maxLen) (hbytes : (n + m) * bytes ≤ 140737488355328) (hbase : base ≤ w.heap.size)
  (h : ∀ v' w', w'.ownsRow base e size v' (n + m) (xs ++ news) → w.grownBy w' v.ownBlock → (v ≠ .slice none 0 0 → v' ≠ .slice none 0 0) → (v'.ownBlock = v.ownBlock ∨ v'.ownBlock = some w.heap.size) → K (a.put o.dst v') w') : o.wp P a w K Q := by
 obtain ⟨v', w', hr, h2, h3, h4, h5⟩ := run_append_row (P := P) (w := w) t o.type base e i z size bytes ht hi hz hsize hby hzs hsz v n xs hown X m c news hX hrd h1 h63 hbytes hbase
 unfold Oper.wp execOp
 simp only [ho, resolve, invoke, builtin, Sem.run_bind, Sem.run_pure, Result.andThen_ok, List.map_toArray, List.map_cons, List.map_nil, hs, hx, hr]
 exact h v' w' h2 h3 h4 h5
theorem zAw {P : Program} {w : World} {ops : Array Oper} {rest : List Oper} {o : Oper} {a : Act} {Q : Exit → Act → World → Prop} (hgd : o.guard = none) (s x : Operand) (t : TypeId)
  (ho : o.op = .call { callee := .builtin .append, args := #[s, x], argTypes := #[t, t] })
  (base : Nat) (e : TypeId) (i : TypeInfo) (z : Value) (size bytes : Nat) (ht : P.underlying t = some (.slice e)) (hi : P.info? e = some i) (hz : i.zero = some z)
  (hsize : i.size = size) (hby : i.bytes = bytes) (hzs : z.cells.size = size) (hsz : 0 < size)
  (v : Value) (n : Nat) (xs : List Value) (hs : a.eval s = v) (hown : w.ownsRow base e size v n xs)
  (X : Option Addr) (m c : Nat) (news : List Value) (hx : a.eval x = .slice X m c) (hX : (X = none ∧ m = 0 ∧ c = 0) ∨ ∃ g, X = some ⟨g, 0, none⟩) (hrd : Rd w X m size news) (h1 : ∀ u ∈ news, u.oneCell' = true)
  (h63 : n + m ≤ maxLen) (hbytes : (n + m) * bytes ≤ 140737488355328) (hbase : base ≤ w.heap.size)
  (h : ∀ v' w', w'.ownsRow base e size v' (n + m) (xs ++ news) → w.grownBy w' v.ownBlock → (v ≠ .slice none 0 0 → v' ≠ .slice none 0 0) → (v'.ownBlock = v.ownBlock ∨ v'.ownBlock = some w.heap.size) → wpList P ops Q rest (a.put o.dst v') w') : wpList P ops Q (o :: rest) a w :=
 wpList_plain hgd fun _ hK => wp_append_row s x t ho base e i z size bytes ht hi hz hsize hby hzs hsz v n xs hs hown X m c news hx hX hrd h1 h63 hbytes hbase fun v' w' h2 h3 h4 h5 => hK _ _ (h v' w' h2 h3 h4 h5)
theorem step_append_row {P : Program} {w : World} {ops : Array Oper} {o : Oper} {a : Act} {K : Act → World → Prop} {Q : Exit → Act → World → Prop} {E : Prop} (hgd : o.guard = none) (s x : Operand) (t : TypeId)
  (ho : o.op = .call { callee := .builtin .append, args := #[s, x], argTypes := #[t, t] })
  (base : Nat) (e : TypeId) (i : TypeInfo) (z : Value) (size bytes : Nat) (ht : P.underlying t = some (.slice e)) (hi : P.info? e = some i) (hz : i.zero = some z)
  (hsize : i.size = size) (hby : i.bytes = bytes) (hzs : z.cells.size = size) (hsz : 0 < size)
  (v : Value) (n : Nat) (xs : List Value) (hs : a.eval s = v) (hown : w.ownsRow base e size v n xs)
  (X : Option Addr) (m c : Nat) (news : List Value) (hx : a.eval x = .slice X m c) (hX : (X = none ∧ m = 0 ∧ c = 0) ∨ ∃ g, X = some ⟨g, 0, none⟩) (hrd : Rd w X m size news) (h1 : ∀ u ∈ news, u.oneCell' = true)
  (h63 : n + m ≤ maxLen) (hbytes : (n + m) * bytes ≤ 140737488355328) (hbase : base ≤ w.heap.size)
  (h : ∀ v' w', w'.ownsRow base e size v' (n + m) (xs ++ news) → w.grownBy w' v.ownBlock → (v ≠ .slice none 0 0 → v' ≠ .slice none 0 0) → (v'.ownBlock = v.ownBlock ∨ v'.ownBlock = some w.heap.size) → K (a.put o.dst v') w') :
  if Region.wanted o (yielded ops a.tmps) = true then Oper.wp P o a w K Q else E := by
 have hw : Region.wanted o (yielded ops a.tmps) = true := by simp [Region.wanted, hgd]
 rw [if_pos hw]
 exact wp_append_row s x t ho base e i z size bytes ht hi hz hsize hby hzs hsz v n xs hs hown X m c news hx hX hrd h1 h63 hbytes hbase h
theorem own_addr {w : World} {lo : Nat} {e : TypeId} {size : Nat} {A : Option Addr} {n c : Nat} {xs : List Value} (h : w.ownsRow lo e size (.slice A n c) n xs) : (A = none ∧ n = 0 ∧ c = 0) ∨ ∃ g, A = some ⟨g, 0, none⟩ := by
 rcases h.2 with ⟨h0, _⟩ | ⟨g, cap, cur, hv, _⟩
 ·cases h0; exact Or.inl ⟨rfl, rfl, rfl⟩
 ·cases hv; exact Or.inr ⟨g, rfl⟩
theorem level_any (A B : Option Addr) (n c m d : Nat) (ps : List Int) (s : Nat) (w : World) (hn : n ≤ 1048576) (h1 : 1 ≤ n) (hr : Rd w A n 1 (ints ps)) (hl : ∀ g, A = some ⟨g, 0, none⟩ → g < w.heap.size) (hok : parOk ps) (hev : evenB ps = true) (hs : s < n) :
  Calls Tryz.prog 91 #[.agg #[.slice A n c, .slice B m d], .int .i64 s] w fun e w' => e = .returned (.int .i64 (lev ps s)) ∧ Below w.heap.size w w' := by
 have hpl := hr.ilen
 have hlv := lev_height hok (by omega) hev (s := s) (by omega)
 rw [hpl] at hlv
 have hd1 := dep_le hok (n - 1) (by omega)
 have hd2 := dep_le hok s (by omega)
 have hw1 : -9223372036854775808 ≤ (dep ps (n - 1) : Int) - dep ps s := by omega
 have hw2 : (dep ps (n - 1) : Int) - dep ps s ≤ 9223372036854775807 := by omega
 have hwr : IntKind.i64.wrap ((dep ps (n - 1) : Int) - dep ps s) = (dep ps (n - 1) : Int) - dep ps s := IntWalk.i64_in _ ⟨hw1, hw2⟩
 have HN := Lib.hid hn
 have HR := Lib.hid hr
 have HL := Lib.hid hl
 have HO := Lib.hid hok
 have HV := Lib.hid hlv.1
 clear hn hr hl hok hev hpl hlv hd1 hd2
 go_enter Tryz.func91, Tryz.ntmps91
 go_wp2
 refine wp_region_below (by kernel_rfl) (by kernel_rfl) (fun W hW => ?_)
 have W0 : W.cell? ⟨w.heap.size, 0, none⟩ = some (.slice A n c) := by rw [hW]; simp [go_sem]
 have WS : w.heap.size < W.heap.size := by rw [hW]; simp
 have WB : Below w.heap.size w W := by rw [hW]; exact (zAa _ _).drew
 have RDW := Lib.hid (HR.out.below HL.out WB)
 have HLW := Lib.hid (zAi HL.out WB)
 have HWB := Lib.hid WB
 clear hW WB
 ((try dsimp only); repeat (first | (refine Det0.skip ?_ ?_; (focus (rfl; done)); (try simp only [putA, zgd, zgf, zge])) | (refine Det0.pure ?_ ?_ ?_ ?_; rotate_left; (focus (rfl; done)); (focus ((intro w9 hJ); (have hk0 := fun o => hJ.cell (p := ⟨w.heap.size, o, none⟩) WS); go_simp; (first | with_reducible rfl | exact eq_if3 | exact neq_if3 | skip); done)); (try simp only [putA, zgd, zgf, zge])) | (refine Det0.step ?_ ?_ ?_ ?_; rotate_left; (focus (rfl; done)); (focus ((intro w9 K hJ hK); (have hk0 := fun o => hJ.cell (p := ⟨w.heap.size, o, none⟩) WS); go_simp; (first | (go_at_call 165; refine (height_any A n c ps _ HN.out h1 (RDW.out.below HLW.out hJ) HO.out).mono ?_; rintro e w1 ⟨rfl, rfl⟩; exact hK.out _ hJ) | (go_at_call 166; refine (depth_any A n c ps s _ HN.out (RDW.out.below HLW.out hJ) HO.out hs).mono ?_; rintro e w1 ⟨rfl, rfl⟩; exact hK.out _ hJ)); done)); (try simp only [putA, zgd, zgf, zge]))))
 refine Det0.nil (fun w9 hJ => ?_)
 go_wp2
 go_ret
 exact ⟨ret_int HV.out.symm, zAc HWB.out hJ⟩
end Go.Proofs.YtnphjhbfpoekpaaGreat
