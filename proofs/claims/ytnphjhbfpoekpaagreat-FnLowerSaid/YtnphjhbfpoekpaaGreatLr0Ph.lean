import Derived.Test.YtnphjhbfpoekpaaGreatFkPh
import Derived.Test.YtnphjhbfpoekpaaGreatHePh
import Derived.Test.YtnphjhbfpoekpaaGreatVkPh
import Derived.Test.YtnphjhbfpoekpaaGreatFhPh
import Derived.Deep.RegionHeld3
import Derived.Test.YtnphjhbfpoekpaaGreatHkPh
namespace Go.Proofs.YtnphjhbfpoekpaaGreat
set_option linter.unusedSimpArgs false
set_option linter.unusedVariables false
set_option linter.unnecessarySimpa false
open Go.RowKit
theorem own_cap9 {w : World} {lo : Nat} {e : TypeId} {size : Nat} {A : Option Addr} {n c : Nat} {xs : List Value} (h : w.ownsRow lo e size (.slice A n c) n xs) : n ≤ c ∧ c ≤ 9223372036854775807 := by
 rcases h.2 with ⟨h0, h1⟩ | ⟨g, cap, cur, hv, _, _, h3, h4, _⟩
 ·cases h0; omega
 ·cases hv; unfold maxLen at h4; exact ⟨h3, h4⟩
def atH (A : Option Addr) (n : Nat) (ss : List Value) (b : Nat) : Prop := atB A b ∨ atX ss n b
theorem OwnH.fr {S : Nat → Prop} {w w' : World} {lo : Nat} {A : Option Addr} {n c : Nat} {ss : List Value} {hs : List Hd} (h : OwnH w lo (.slice A n c) n ss hs) (hb : Fr S w w') (hn : ∀ b, atH A n ss b → ¬ S b) : OwnH w' lo (.slice A n c) n ss hs :=
 ⟨own_fr h.own hb (fun k hk => hn k (Or.inl (own_atB h.own hk))), h.len, h.slen, fun k x p a q => ⟨(h.each k x p a q).1, own_fr (h.each k x p a q).2 hb (fun b hb2 => hn b (Or.inr ⟨k, x, by have := (List.getElem?_eq_some_iff.1 a).1; have := h.slen; omega, a, hb2⟩))⟩, h.apart⟩
structure HH (w : World) (lo : Nat) (X : Option Addr) (c : Nat) (Y : Option Addr) (d : Nat) (ss tt : List Value) (s : PS) : Prop where
 st : OwnH w lo (.slice X s.a.length c) s.a.length ss s.a
 la : OwnH w lo (.slice Y s.b.length d) s.b.length tt s.b
 row : ∀ k, atB X k → ¬ atB Y k
 far : farV ss tt
theorem HH.bel {w w' : World} {lo : Nat} {X Y : Option Addr} {c d : Nat} {ss tt : List Value} {s : PS} (h : HH w lo X c Y d ss tt s) (hb : Below w.heap.size w w') : HH w' lo X c Y d ss tt s :=
 ⟨h.st.bel hb, h.la.bel hb, h.row, h.far⟩
def atHH (X Y : Option Addr) (ss tt : List Value) (s : PS) (b : Nat) : Prop := atH X s.a.length ss b ∨ atH Y s.b.length tt b
theorem HH.fr {S : Nat → Prop} {w w' : World} {lo : Nat} {X Y : Option Addr} {c d : Nat} {ss tt : List Value} {s : PS} (h : HH w lo X c Y d ss tt s) (hb : Fr S w w') (hn : ∀ b, atHH X Y ss tt s b → ¬ S b) : HH w' lo X c Y d ss tt s :=
 ⟨h.st.fr hb (fun b hb2 => hn b (Or.inl hb2)), h.la.fr hb (fun b hb2 => hn b (Or.inr hb2)), h.row, h.far⟩
structure HHM (w : World) (X Y : Option Addr) (ss tt : List Value) (s : PS) : Prop where
 a : HM w X s.a.length ss s.a 1 s.a.length
 b : HM w Y s.b.length tt s.b (1 + (hcnt s.a : Int)) s.b.length
theorem HHM.bel {w w' : World} {X Y : Option Addr} {ss tt : List Value} {s : PS} (h : HHM w X Y ss tt s) (hb : Below w.heap.size w w') : HHM w' X Y ss tt s := ⟨h.a.bel hb, h.b.bel hb⟩
theorem plS_len (r : Rm) (now depth : Int) (js : List J) : (plS r now js depth).a.length ≤ 60 ∧ (plS r now js depth).b.length ≤ 60 := by
 unfold plS
 split
 ·rename_i h
  simp only [planB, Bool.and_eq_true] at h
  have h1 := plan_len r now depth (orderV js)
  rw [orderV_len] at h1
  have h2 := (queue_parts h.1.1.2).1
  unfold planV
  constructor <;> omega
 ·simp
theorem PlanH_any (a : RA) (r : Rm) (xs : List Value) (lo0 : Nat) (now : Int) (D : Option Addr) (k e lo1 : Nat) (js : List J) (depth : Int) (w : World) (h : RoomOwn w lo0 a r xs) (hk : k ≤ 1048576) (ho : w.ownsRow lo1 95 11 (.slice D k e) k (jflat js)) :
  Calls Tryz.prog 12 #[a.v, .int .i64 now, .slice D k e, .int .i64 depth] w fun e' w' => ∃ (X : Option Addr) (c : Nat) (Y : Option Addr) (d : Nat) (ss tt : List Value), e' = .returned (.tuple #[.slice X (plS r now js depth).a.length c, .slice Y (plS r now js depth).b.length d, .bool (planB r now js depth)]) ∧ HH w' w.heap.size X c Y d ss tt (plS r now js depth) ∧ Below w.heap.size w w' := by
 refine (Plan_any a r xs lo0 now D k e js depth w h hk (own_cap9 ho).1 (own_cap9 ho).2 (zAn ho) ?_).mono ?_
 ·rcases ho.2 with ⟨h0, h1⟩ | ⟨g, cap, cur, hv, hg, hh, h1, h2, _⟩
  ·cases h0; exact Or.inl ⟨rfl, rfl, rfl⟩
  ·cases hv; exact Or.inr ⟨g, rfl, zAg hh⟩
 ·rintro e' w' ⟨X, Y, ss, tt, rfl, h1, h2, h3, h4, h5⟩
  obtain ⟨A, c, rfl, _⟩ := zAq h1.own
  obtain ⟨B, d, rfl, _⟩ := zAq h2.own
  exact ⟨A, c, B, d, ss, tt, rfl, ⟨h1, h2, fun b hb hb2 => h3 b (atB_own' hb) (atB_own' hb2), h4⟩, h5⟩
theorem sPlanH_any (a : RA) (r : Rm) (xs : List Value) (lo0 : Nat) (now : Int) (D : Option Addr) (k e lo1 : Nat) (js : List J) (depth : Int) (w : World) (h : RoomOwn w lo0 a r xs) (hk : k ≤ 1048576) (ho : w.ownsRow lo1 95 11 (.slice D k e) k (jflat js)) :
  Calls Tryz.prog 13 #[a.v, .int .i64 now, .slice D k e, .int .i64 depth] w fun e' w' => ∃ (X : Option Addr) (c : Nat) (Y : Option Addr) (d : Nat) (ss tt : List Value), e' = .returned (.tuple #[.slice X (plS r now js depth).a.length c, .slice Y (plS r now js depth).b.length d, .bool (planB r now js depth)]) ∧ HH w' w.heap.size X c Y d ss tt (plS r now js depth) ∧ Below w.heap.size w w' := by
 refine (sPlan_any a r xs lo0 now D k e js depth w h hk (own_cap9 ho).1 (own_cap9 ho).2 (zAn ho) ?_).mono ?_
 ·rcases ho.2 with ⟨h0, h1⟩ | ⟨g, cap, cur, hv, hg, hh, h1, h2, _⟩
  ·cases h0; exact Or.inl ⟨rfl, rfl, rfl⟩
  ·cases hv; exact Or.inr ⟨g, rfl, zAg hh⟩
 ·rintro e' w' ⟨X, Y, ss, tt, rfl, h1, h2, h3, h4, h5⟩
  obtain ⟨A, c, rfl, _⟩ := zAq h1.own
  obtain ⟨B, d, rfl, _⟩ := zAq h2.own
  exact ⟨A, c, B, d, ss, tt, rfl, ⟨h1, h2, fun b hb hb2 => h3 b (atB_own' hb) (atB_own' hb2), h4⟩, h5⟩
end Go.Proofs.YtnphjhbfpoekpaaGreat
