/-
  What is drawn for a string and a byte.
-/
import Derived.Test.YtjnfdcojccgfoaaDa
import Derived.Test.YtjnfdcojccgfoaaNp
import Derived.Deep.RegionWith
import Derived.Deep.DeepCutAuto
namespace Go.Proofs.Ytjnfdcojccgfoaa
set_option linter.unusedSimpArgs false
set_option linter.unusedVariables false
set_option linter.unnecessarySimpa false
open Go.RowKit
def tabS (k : Nat) : ByteArray := match k with
  | 0 => ⟨#[]⟩
  | 1 => ⟨#[97]⟩
  | 2 => ⟨#[97, 32, 98]⟩
  | 3 => ⟨#[32]⟩
  | 4 => ⟨#[32, 32]⟩
  | 5 => ⟨#[97, 32, 32, 98, 32]⟩
  | 6 => ⟨#[32, 97]⟩
  | _ => ⟨#[97, 47, 98]⟩
theorem tabS_size (k : Nat) : (tabS k).size ≤ 5 := by
  unfold tabS
  split <;> decide
def tabB (k : Nat) : Int := match k with
  | 0 => 32
  | 1 => 47
  | _ => 97
theorem tabB_in (k : Nat) : tabB k = 32 ∨ tabB k = 47 ∨ tabB k = 97 := by
  unfold tabB
  split <;> simp
theorem cell_tabS (w : World) (e : TypeId) (k : Nat) (h : k < 8) : (w.alloc (.cells #[.string ⟨#[]⟩, .string ⟨#[97]⟩, .string ⟨#[97, 32, 98]⟩, .string ⟨#[32]⟩, .string ⟨#[32, 32]⟩, .string ⟨#[97, 32, 32, 98, 32]⟩, .string ⟨#[32, 97]⟩, .string ⟨#[97, 47, 98]⟩] e)).cell? ⟨w.heap.size, k, none⟩ = some (.string (tabS k)) := by
  match k, h with
  | 0, _ | 1, _ | 2, _ | 3, _ | 4, _ | 5, _ | 6, _ | 7, _ => simp [go_sem, tabS]
theorem cell_tabB (w : World) (e : TypeId) (k : Nat) (h : k < 3) : (w.alloc (.cells #[.int .u8 32, .int .u8 47, .int .u8 97] e)).cell? ⟨w.heap.size, k, none⟩ = some (.int .u8 (tabB k)) := by
  match k, h with
  | 0, _ | 1, _ | 2, _ => simp [go_sem, tabB]
set_option maxHeartbeats 1000000 in
theorem drawParts_any (A : Option Addr) (n c : Nat) (w : World) (hn : n ≤ 1048576) (h : ByIn w A n) :
    Calls Try.prog 26 #[.slice A n c] w fun e w' => ∃ (s : ByteArray) (u : Int), e = .returned (.tuple #[.string s, .int .u8 u]) ∧ s.size ≤ 5 ∧ (u = 32 ∨ u = 47 ∨ u = 97) ∧ Below w.heap.size w w' := by
  go_enter Try.func26, Try.ntmps26
  go_wp2_with fail
  refine (cur_new A n c _ hn h).mono ?_
  rintro e w1 ⟨g, rfl, hg, cu1, hb1⟩
  have C1 := Lib.hid cu1
  have hgl := cu1.lt
  clear cu1
  go_wp2_with fail
  refine (cur_below g 8 _ (C1.out.below (below_alloc _ _)) (by omega) (by omega)).mono ?_
  rintro e w2 ⟨x2, rfl, a2, b2, cu2, fr2⟩
  have C2 := Lib.hid cu2
  clear cu2
  obtain ⟨k, rfl⟩ : ∃ k : Nat, x2 = k := ⟨x2.toNat, by omega⟩
  have hk8 : k < 8 := by omega
  have hk2 := fr2.cell (b := w1.heap.size) (by simp) (by omega) k
  rw [cell_tabS w1 _ k hk8] at hk2
  have hb2 : Below w.heap.size _ w2 := fr2.bel (B := w.heap.size) (fun k e => by omega) (by have := hb1.size; simp; omega)
  have hs2 := hb2.size
  clear fr2
  go_wp2
  have hs1 := hb1.size
  simp at hs2
  go_region_with (first | (go_at_call 100; refine (cur_below g 3 _ (C2.out.below (by repeat (first | exact Below.refl _ _ | assumption | (refine bstep ?_ (below_drewN _ _)) | exact bstep (by assumption) (by assumption) | (refine bstep ?_ (below_alloc _ _)) | (refine bstep ?_ (by assumption)) | (refine Below.setCell ?_ (by simp <;> omega) _) | refine Below.drew ?_))) (by omega) (by omega)).mono ?_; rintro e w3 ⟨x3, rfl, a3, b3, cu3, fr3⟩; obtain ⟨k3, rfl⟩ : ∃ k : Nat, x3 = k := ⟨x3.toNat, by omega⟩; have hk3 : k3 < 3 := (by omega); have ht3 := (fun W : World => cell_tabB W 5 k3 hk3); have hb3 := fr3.bel (B := w.heap.size) (fun k e => by omega) (by first | omega | (simp <;> omega)); have hs3 := hb3.size; (try (have hk3' : w3.cell? ⟨w2.heap.size, k3, none⟩ = some (.int .u8 (tabB k3)) := (fr3.cell (b := w2.heap.size) (by simp) (by omega) k3).trans (cell_tabB w2 _ k3 hk3))); clear fr3))
  all_goals go_wp2
  all_goals (try go_light)
  all_goals exact bodyPost_ret (v := .tuple #[.string (tabS k), .int .u8 (tabB k3)]) (by simp [results, Try.results26, go_sem, *]) rfl ⟨_, _, rfl, tabS_size _, tabB_in _, (by repeat (first | exact Below.refl _ _ | assumption | (refine bstep ?_ (below_drewN _ _)) | exact bstep (by assumption) (by assumption) | (refine bstep ?_ (below_alloc _ _)) | (refine bstep ?_ (by assumption)) | (refine Below.setCell ?_ (by simp <;> omega) _) | refine Below.drew ?_ | (refine Below.trans ?_ (by assumption))))⟩
end Go.Proofs.Ytjnfdcojccgfoaa
