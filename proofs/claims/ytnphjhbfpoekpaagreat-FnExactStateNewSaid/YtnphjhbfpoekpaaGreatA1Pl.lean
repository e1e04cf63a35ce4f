import Derived.Test.YtnphjhbfpoekpaaGreatRows
import Derived.WalkKit
import Derived.WalkSpells
import Derived.WalkLawsBesides
import Derived.Lib.Hide
import Derived.Deep.QuietTactic
import Derived.BigQuiet
import Derived.Deep.RegionHeld3
import Derived.Deep.DeepCutAuto
import Derived.Deep.Light
namespace Go.Proofs.YtnphjhbfpoekpaaGreat
set_option linter.unusedSimpArgs false
set_option linter.unusedVariables false
set_option linter.unnecessarySimpa false
open Go.RowKit
def inB (x lo hi : Int) : Bool := decide (lo ≤ x) && decide (x ≤ hi)
def resB (x : Int) : Bool := inB x 0 1000000
def vecOkB (a b c : Int) : Bool := resB a && resB b && resB c
theorem zAj {a b : Bool} (h : a = b) : Ending.returned (.bool a) = .returned (.bool b) := by rw [h]
theorem ret_int {k : IntKind} {a b : Int} (h : a = b) : Ending.returned (.int k a) = .returned (.int k b) := by rw [h]
theorem bcell {W w1 : World} (hb : Below W.heap.size W w1) : (∀ b o, b < W.heap.size → w1.cell? ⟨b, o, none⟩ = W.cell? ⟨b, o, none⟩) ∧ (∀ b o, b < W.heap.size → w1.frozen? ⟨b, o, none⟩ = W.frozen? ⟨b, o, none⟩) :=
 ⟨fun b o h => hb.cell (p := ⟨b, o, none⟩) h, fun b o h => hb.frozen (p := ⟨b, o, none⟩) h⟩
theorem zAc {W w w' : World} (h : Below W.heap.size W w) (h' : Below w.heap.size w w') : Below W.heap.size W w' := h.trans (h'.mono h.size)
theorem zAa (w : World) (o : Obj) : Below w.heap.size w (w.alloc o) := (Below.refl _ _).alloc (Nat.le_refl _) _
structure V where
 A : Int
 B : Int
 C : Int
def V.ok (v : V) : Bool := vecOkB v.A v.B v.C
def V.zero : V := ⟨0, 0, 0⟩
set_option maxHeartbeats 400000 in
theorem within_any (x lo hi : Int) (w : World) :
  Calls Tryz.prog 54 #[.int .i64 x, .int .i64 lo, .int .i64 hi] w fun e w' => e = .returned (.bool (inB x lo hi)) ∧ w = w' := by
 by_cases h1 : lo ≤ x
 ·go_enter Tryz.func54, Tryz.ntmps54
  go_wp2
  go_ret
  exact ⟨zAj (by simp [inB, h1]), rfl⟩
 ·go_enter Tryz.func54, Tryz.ntmps54
  go_wp2
  go_ret
  exact ⟨zAj (by simp [inB]; omega), rfl⟩
theorem res_any (x : Int) (w : World) :
  Calls Tryz.prog 54 #[.int .i64 x, .int .i64 0, .int .i64 1000000] w fun e w' => e = .returned (.bool (resB x)) ∧ w = w' := within_any x 0 1000000 w
set_option maxHeartbeats 400000 in
theorem sres_any (x : Int) (w : World) :
  Calls Tryz.prog 212 #[.int .i64 x] w fun e w' => e = .returned (.bool (resB x)) ∧ w = w' := by
 by_cases h1 : 0 ≤ x
 ·go_enter Tryz.func212, Tryz.ntmps212
  go_wp2
  go_ret
  exact ⟨zAj (by simp [resB, inB, h1]), rfl⟩
 ·go_enter Tryz.func212, Tryz.ntmps212
  go_wp2
  go_ret
  exact ⟨zAj (by simp [resB, inB]; omega), rfl⟩
def V.val (v : V) : Value := .agg #[.int .i64 v.A, .int .i64 v.B, .int .i64 v.C]
set_option maxHeartbeats 400000 in
theorem vecOk_raw (a b c : Int) (w : World) :
  Calls Tryz.prog 101 #[.agg #[.int .i64 a, .int .i64 b, .int .i64 c]] w fun e w' => e = .returned (.bool (vecOkB a b c)) ∧ Below w.heap.size w w' := by
 go_enter Tryz.func101, Tryz.ntmps101
 go_wp2_with (go_at_call 54; refine (res_any _ _).mono ?_; rintro e w' ⟨rfl, rfl⟩)
 all_goals go_ret
 all_goals exact ⟨zAj (by simp_all [vecOkB]), zAa _ _⟩
set_option maxHeartbeats 400000 in
theorem svecOk_raw (a b c : Int) (w : World) :
  Calls Tryz.prog 172 #[.agg #[.int .i64 a, .int .i64 b, .int .i64 c]] w fun e w' => e = .returned (.bool (vecOkB a b c)) ∧ Below w.heap.size w w' := by
 go_enter Tryz.func172, Tryz.ntmps172
 go_wp2_with (go_at_call 212; refine (sres_any _ _).mono ?_; rintro e w' ⟨rfl, rfl⟩)
 all_goals go_ret
 all_goals exact ⟨zAj (by simp_all [vecOkB]), zAa _ _⟩
set_option maxHeartbeats 400000 in
theorem toVec_raw (a b c : Int) (w : World) :
  Calls Tryz.prog 40 #[.agg #[.int .i64 a, .int .i64 b, .int .i64 c]] w fun e w' => e = .returned (.agg #[.int .i64 a, .int .i64 b, .int .i64 c]) ∧ Below w.heap.size w w' := by
 go_enter Tryz.func40, Tryz.ntmps40
 go_wp2
 exact bodyPost_ret (v := .agg #[.int .i64 a, .int .i64 b, .int .i64 c]) (by simp [results, Tryz.results40, go_sem]) rfl ⟨rfl, zAc (zAc (zAa _ _) (zAa _ _)) (zAa _ _)⟩
def fitsB (a b c x y z : Int) : Bool := vecOkB a b c && vecOkB x y z && decide (a ≤ x) && decide (b ≤ y) && decide (c ≤ z)
set_option maxHeartbeats 400000 in
theorem svecFits_raw (a b c x y z : Int) (w : World) :
  Calls Tryz.prog 204 #[.agg #[.int .i64 a, .int .i64 b, .int .i64 c], .agg #[.int .i64 x, .int .i64 y, .int .i64 z]] w fun e w' => e = .returned (.bool (fitsB a b c x y z)) ∧ Below w.heap.size w w' := by
 go_enter Tryz.func204, Tryz.ntmps204
 go_wp2_with fail
 refine (svecOk_raw _ _ _ _).mono ?_
 rintro e w1 ⟨rfl, hb1⟩
 obtain ⟨hc1, hf1⟩ := bcell hb1
 have hy1 : w.heap.size < w1.heap.size ∧ w.heap.size + 1 < w1.heap.size := by have := hb1.size; simp at this; omega
 go_wp2_with fail
 ·refine (svecOk_raw _ _ _ _).mono ?_
  rintro e w2 ⟨rfl, hb2⟩
  obtain ⟨hc2, hf2⟩ := bcell hb2
  go_wp2_with fail
  all_goals clear hc1 hf1 hc2 hf2
  all_goals go_ret
  all_goals refine ⟨zAj ?_, zAc (zAc (zAc (zAa _ _) (zAa _ _)) hb1) hb2⟩
  all_goals clear hb1 hb2
  all_goals (simp_all [fitsB]; try omega)
 ·clear hc1 hf1
  go_ret
  refine ⟨zAj ?_, zAc (zAc (zAa _ _) (zAa _ _)) hb1⟩
  clear hb1
  simp_all [fitsB]
def validV (a b v : V) : V := if a.ok && b.ok && v.ok then v else V.zero
def validB (a b v : V) : Bool := a.ok && b.ok && v.ok
set_option maxHeartbeats 1000000 in
theorem valid_raw (a b v : V) (w : World) :
  Calls Tryz.prog 214 #[.agg #[.int .i64 a.A, .int .i64 a.B, .int .i64 a.C], .agg #[.int .i64 b.A, .int .i64 b.B, .int .i64 b.C], .agg #[.int .i64 v.A, .int .i64 v.B, .int .i64 v.C]] w fun e w' =>
   e = .returned (.tuple #[.agg #[.int .i64 (validV a b v).A, .int .i64 (validV a b v).B, .int .i64 (validV a b v).C], .bool (validB a b v)]) ∧ Below w.heap.size w w' := by
 go_enter Tryz.func214, Tryz.ntmps214
 go_wp2_with fail
 refine (vecOk_raw _ _ _ _).mono ?_
 rintro e w1 ⟨rfl, hb1⟩
 obtain ⟨hc1, hf1⟩ := bcell hb1
 have hy1 : w.heap.size < w1.heap.size ∧ w.heap.size + 1 < w1.heap.size ∧ w.heap.size + 1 + 1 < w1.heap.size ∧ w.heap.size + 1 + 1 + 1 < w1.heap.size := by have := hb1.size; simp at this; omega
 go_wp2_with fail
 ·refine (vecOk_raw _ _ _ _).mono ?_
  rintro e w2 ⟨rfl, hb2⟩
  obtain ⟨hc2, hf2⟩ := bcell hb2
  have hy2 : w.heap.size + 1 + 1 < w2.heap.size ∧ w.heap.size + 1 + 1 + 1 < w2.heap.size := by have := hb2.size; omega
  go_wp2_with fail
  ·refine (vecOk_raw _ _ _ _).mono ?_
   rintro e w3 ⟨rfl, hb3⟩
   obtain ⟨hc3, hf3⟩ := bcell hb3
   have hy3 : w.heap.size + 1 + 1 < w3.heap.size ∧ w.heap.size + 1 + 1 + 1 < w3.heap.size := by have := hb3.size; omega
   go_wp2_with fail
   ·have e1 : validV a b v = V.zero ∧ validB a b v = false := by simp_all [validV, validB, V.ok]
    rw [e1.1, e1.2]
    refine bodyPost_ret (v := .tuple #[.agg #[.int .i64 0, .int .i64 0, .int .i64 0], .bool false]) (by simp [results, Tryz.results214, go_sem, *]) rfl ⟨rfl, (by repeat (first | exact Below.refl _ _ | (refine zAc ?_ (zAa _ _)) | (refine zAc ?_ (by assumption)) | (refine Below.setCell ?_ (by simp <;> omega) _) | refine Below.drew ?_))⟩
   ·have e1 : validV a b v = v ∧ validB a b v = true := by simp_all [validV, validB, V.ok]
    rw [e1.1, e1.2]
    refine bodyPost_ret (v := .tuple #[.agg #[.int .i64 v.A, .int .i64 v.B, .int .i64 v.C], .bool true]) (by simp [results, Tryz.results214, go_sem, *]) rfl ⟨rfl, (by repeat (first | exact Below.refl _ _ | (refine zAc ?_ (zAa _ _)) | (refine zAc ?_ (by assumption)) | (refine Below.setCell ?_ (by simp <;> omega) _) | refine Below.drew ?_))⟩
  ·have e1 : validV a b v = V.zero ∧ validB a b v = false := by simp_all [validV, validB, V.ok]
   rw [e1.1, e1.2]
   refine bodyPost_ret (v := .tuple #[.agg #[.int .i64 0, .int .i64 0, .int .i64 0], .bool false]) (by simp [results, Tryz.results214, go_sem, *]) rfl ⟨rfl, (by repeat (first | exact Below.refl _ _ | (refine zAc ?_ (zAa _ _)) | (refine zAc ?_ (by assumption)) | (refine Below.setCell ?_ (by simp <;> omega) _) | refine Below.drew ?_))⟩
 ·have e1 : validV a b v = V.zero ∧ validB a b v = false := by simp_all [validV, validB, V.ok]
  rw [e1.1, e1.2]
  refine bodyPost_ret (v := .tuple #[.agg #[.int .i64 0, .int .i64 0, .int .i64 0], .bool false]) (by simp [results, Tryz.results214, go_sem, *]) rfl ⟨rfl, (by repeat (first | exact Below.refl _ _ | (refine zAc ?_ (zAa _ _)) | (refine zAc ?_ (by assumption)) | (refine Below.setCell ?_ (by simp <;> omega) _) | refine Below.drew ?_))⟩
def difV (a b : V) : V := ⟨wrap64 (a.A - b.A), wrap64 (a.B - b.B), wrap64 (a.C - b.C)⟩
def minV (a b : V) : V := ⟨min a.A b.A, min a.B b.B, min a.C b.C⟩
def subV (a b : V) : V := validV a b (difV a b)
def subB (a b : V) : Bool := validB a b (difV a b)
def vminV (a b : V) : V := validV a b (minV a b)
set_option maxHeartbeats 1000000 in
theorem sub_raw (a b : V) (w : World) :
  Calls Tryz.prog 181 #[.agg #[.int .i64 a.A, .int .i64 a.B, .int .i64 a.C], .agg #[.int .i64 b.A, .int .i64 b.B, .int .i64 b.C]] w fun e w' =>
   e = .returned (.tuple #[.agg #[.int .i64 (subV a b).A, .int .i64 (subV a b).B, .int .i64 (subV a b).C], .bool (subB a b)]) ∧ Below w.heap.size w w' := by
 go_enter Tryz.func181, Tryz.ntmps181
 go_wp2_with fail
 refine (valid_raw a b (difV a b) _).mono ?_
 rintro e w1 ⟨rfl, hb1⟩
 obtain ⟨hc1, hf1⟩ := bcell hb1
 have hy1 : w.heap.size < w1.heap.size ∧ w.heap.size + 1 < w1.heap.size ∧ w.heap.size + 1 + 1 < w1.heap.size := by have := hb1.size; simp at this; omega
 go_wp2_with fail
 refine bodyPost_ret (v := .tuple #[.agg #[.int .i64 (subV a b).A, .int .i64 (subV a b).B, .int .i64 (subV a b).C], .bool (subB a b)]) (by simp [results, Tryz.results181, go_sem, subV, subB, *]) rfl ⟨rfl, (by repeat (first | exact Below.refl _ _ | (refine zAc ?_ (zAa _ _)) | (refine zAc ?_ (by assumption)) | (refine Below.setCell ?_ (by simp <;> omega) _) | refine Below.drew ?_))⟩
def V.eqB (a b : V) : Bool := a.A == b.A && a.B == b.B && a.C == b.C
set_option maxHeartbeats 1000000 in
theorem eqVec_raw (a b : V) (w : World) :
  Calls Tryz.prog 93 #[.agg #[.int .i64 a.A, .int .i64 a.B, .int .i64 a.C], .agg #[.int .i64 b.A, .int .i64 b.B, .int .i64 b.C]] w fun e w' =>
   e = .returned (.bool (a.eqB b)) ∧ Below w.heap.size w w' := by
 go_enter Tryz.func93, Tryz.ntmps93
 go_wp2_with fail
 all_goals go_ret
 all_goals refine ⟨zAj ?_, (by repeat (first | exact Below.refl _ _ | (refine zAc ?_ (zAa _ _)) | (refine zAc ?_ (by assumption)) | (refine Below.setCell ?_ (by simp <;> omega) _) | refine Below.drew ?_))⟩
 all_goals simp_all [V.eqB]
def timeB (x : Int) : Bool := inB x 0 1000000000
set_option maxHeartbeats 400000 in
theorem isTime_any (x : Int) (w : World) :
  Calls Tryz.prog 53 #[.int .i64 x] w fun e w' => e = .returned (.bool (timeB x)) ∧ w = w' := by
 go_enter Tryz.func53, Tryz.ntmps53
 go_wp2_with (go_at_call 54; refine (within_any _ _ _ _).mono ?_; rintro e w' ⟨rfl, rfl⟩)
 go_ret
 exact ⟨rfl, rfl⟩
theorem zBe {lo : Nat} {w w' : World} (h : Below lo w w' := by repeat (first | exact Below.refl _ _ | assumption | (refine zAc ?_ (zAd _ _)) | exact zAc (by assumption) (by assumption) | (refine zAc ?_ (zAa _ _)) | (refine zAc ?_ (by assumption)) | (refine Below.setCell ?_ (by simp <;> omega) _) | refine Below.drew ?_)) : Below lo w w' := h
theorem zOm {p : Prop} (h : p := by first | omega | (simp <;> omega)) : p := h
theorem zga.{u} {α : Type u} (a : α) (bs : List α) (h : 0 < (a :: bs).length) : (a :: bs)[0] = a := List.getElem_cons_zero a bs h
theorem zgb.{u} {α : Type u} (a : α) (bs : List α) (i : Nat) (h : i + 1 < (a :: bs).length) : (a :: bs)[i + 1] = bs[i]'(by simpa using h) := List.getElem_cons_succ a bs i h
theorem zgc.{u} {α : Type u} {xs : List α} {i : Nat} (h : i < xs.toArray.size) : xs.toArray[i] = xs[i]'(by simpa using h) := List.getElem_toArray h
theorem zgd.{u} {α : Type u} (l : List α) (i : Nat) (a : α) : l.toArray.setIfInBounds i a = (l.set i a).toArray := List.setIfInBounds_toArray l i a
theorem zge.{u} {α : Type u} {x : α} {xs : List α} {i : Nat} {a : α} : (x :: xs).set (i + 1) a = x :: xs.set i a := List.set_cons_succ
theorem zgf.{u} {α : Type u} {x : α} {xs : List α} {a : α} : (x :: xs).set 0 a = a :: xs := List.set_cons_zero
theorem zgg.{u} {α : Type u} {a b : α} : (some a).getD b = a := Option.getD_some
theorem zgh.{u} {α : Type u} {l : List α} {i : Nat} (h : i < l.length) : l[i]? = some l[i] := List.getElem?_eq_getElem h
end Go.Proofs.YtnphjhbfpoekpaaGreat
