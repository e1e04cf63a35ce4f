import Derived.Test.YtnphjhbfpoekpaaGreatA8Ph
import Derived.Test.YtnphjhbfpoekpaaGreatA12Ph
import Derived.Test.YtnphjhbfpoekpaaGreatA7Ph
import Derived.Deep.RegionHeld3
import Derived.Deep.QuietTactic
import Derived.BigQuiet
import Derived.Deep.AppendLies
import Derived.Test.YtnphjhbfpoekpaaGreatA6Ph
import Derived.Test.YtnphjhbfpoekpaaGreatA3Ph
namespace Go.Proofs.YtnphjhbfpoekpaaGreat
set_option linter.unusedSimpArgs false
set_option linter.unusedVariables false
set_option linter.unnecessarySimpa false
open Go.RowKit
def selN (p : Nat → Bool) (k : Nat) : List Int := ((List.range k).filter p).map fun (i : Nat) => (i : Int)
theorem selN_succ (p : Nat → Bool) (k : Nat) : selN p (k + 1) = if p k then selN p k ++ [(k : Int)] else selN p k := by
 unfold selN
 rw [List.range_succ, List.filter_append, List.map_append]
 by_cases h : p k <;> simp [h]
theorem selN_yes {p : Nat → Bool} {k : Nat} (h : p k = true) : selN p (k + 1) = selN p k ++ [(k : Int)] := by rw [selN_succ, if_pos h]
theorem selN_no {p : Nat → Bool} {k : Nat} (h : p k = false) : selN p (k + 1) = selN p k := by rw [selN_succ, if_neg (by rw [h]; decide)]
theorem selN_len (p : Nat → Bool) (k : Nat) : (selN p k).length ≤ k := by
 unfold selN
 rw [List.length_map]
 exact Nat.le_trans (List.length_filter_le _ _) (by simp)
theorem rd_bool {w : World} {A : Option Addr} {n : Nat} {bs : List Bool} (h : Rd w A n 1 (bools bs)) {k : Nat} (hk : k < n) : ∃ g b, A = some ⟨g, 0, none⟩ ∧ bs[k]? = some b ∧ w.cell? ⟨g, k, none⟩ = some (.bool b) := by
 obtain ⟨g, u, h1, h2, h3⟩ := h.at_ hk
 unfold bools at h2
 rw [List.getElem?_map] at h2
 cases hb : bs[k]? with
 | none => rw [hb] at h2; cases h2
 | some b => rw [hb] at h2; cases h2; exact ⟨g, b, h1, rfl, h3⟩
def eligS (r : Rm) (need : V) (lo hi : Int) (i : Nat) : Bool := spanB lo hi && eligB r need lo hi i
theorem elig_no {r : Rm} {need : V} {lo hi : Int} (h : (r.okB && need.ok && spanB lo hi) = false) : EligV r need lo hi = [] := by unfold EligV; rw [h]; rfl
theorem elig_sel {r : Rm} {need : V} {lo hi : Int} (h : r.okB = true) {np : Nat} (hl : r.profs.length = np) : EligV r need lo hi = selN (eligS r need lo hi) np := by
 have hnil : ∀ p : Nat → Bool, (∀ i, p i = false) → selN p np = [] := by
  intro p hp
  unfold selN
  rw [List.filter_eq_nil_iff.2 (fun i _ => by rw [hp i]; decide)]; rfl
 unfold EligV
 rw [h, Bool.true_and]
 cases hs : spanB lo hi
 ·rw [Bool.and_false, if_neg (by decide), hnil]
  intro i; unfold eligS; rw [hs]; rfl
 ·cases hn : need.ok
  ·rw [Bool.false_and, if_neg (by decide), hnil]
   intro i; unfold eligS eligB fitV fitsB
   have : vecOkB need.A need.B need.C = false := hn
   rw [this]; simp
  ·rw [Bool.and_true, if_pos rfl]
   have : eligS r need lo hi = eligB r need lo hi := by funext i; unfold eligS; rw [hs]; rfl
   rw [this, ← hl]; rfl
theorem eligB_up {r : Rm} {need : V} {lo hi : Int} {i : Nat} (h : r.up[i]? = some false) : eligB r need lo hi i = false := by
 unfold eligB; rw [List.getD_eq_getElem?_getD, h]; rfl
theorem eligB_at {r : Rm} {need : V} {lo hi : Int} {i : Nat} {ps : List Q} (h : r.up[i]? = some true) (hp : r.profs[i]? = some ps) : eligB r need lo hi i = fitV need (leastV lo hi ps) := by
 unfold eligB; rw [List.getD_eq_getElem?_getD, h, List.getD_eq_getElem?_getD, hp]; rfl
set_option maxHeartbeats 8000000 in
set_option maxRecDepth 20000 in
theorem eligible_any (a : RA) (r : Rm) (need : V) (lo hi : Int) (w : World) (h : RoomRd w a r) (hu : a.np ≤ a.nu) :
  Calls Tryz.prog 143 #[a.v, .agg #[.int .i64 need.A, .int .i64 need.B, .int .i64 need.C], .int .i64 lo, .int .i64 hi] w fun e w' => ∃ v, e = .returned v ∧ w'.ownsRow w.heap.size 3 1 v (eligV r need lo hi).length (ints (eligV r need lo hi)) ∧ Below w.heap.size w w' := by
 obtain ⟨l1, l2, l3, l4, l5⟩ := h.lens
 obtain ⟨A, B, U, R, L, n, m, nu, np, nl, c, d, cu, cp, cl⟩ := a
 dsimp only [RA.v]
 dsimp only at *
 have H := Lib.hid h
 have HU := Lib.hid hu
 have hnp : np ≤ 1048576 := h.np
 have HNP := Lib.hid hnp
 have HF : Hid (eligV r need lo hi = selN (eligB r need lo hi) np) := Lib.hid (by unfold eligV; rw [l4]; rfl)
 clear h hu l1 l2 l3 l4 l5
 go_enter Tryz.func143, Tryz.ntmps143
 go_wp2
 go_loopw [9, 16] (fun v i wr => ∃ (j : Nat) (X : Option Addr) (cx : Nat), j ≤ np ∧ i = .int .i64 j ∧ v = .slice X (selN (eligB r need lo hi) j).length cx ∧ wr.ownsRow (w.heap.size + 1 + 1) 3 1 (.slice X (selN (eligB r need lo hi) j).length cx) (selN (eligB r need lo hi) j).length (ints (selN (eligB r need lo hi) j)) ∧ Below w.heap.size w wr ∧ w.heap.size + 1 + 1 ≤ wr.heap.size ∧ wr.cell? ⟨w.heap.size, 2, none⟩ = some (.slice U nu cu) ∧ wr.cell? ⟨w.heap.size, 3, none⟩ = some (.slice R np cp) ∧ wr.cell? ⟨w.heap.size + 1, 0, none⟩ = some (.int .i64 need.A) ∧ wr.cell? ⟨w.heap.size + 1, 1, none⟩ = some (.int .i64 need.B) ∧ wr.cell? ⟨w.heap.size + 1, 2, none⟩ = some (.int .i64 need.C)) (fun _ i _ => np - (intOf i).toNat)
 case atStart =>
  refine ⟨0, _, 0, Nat.zero_le _, rfl, rfl, own_lit (cs := []) (zAj _ (by simp)) rfl (by show 0 ≤ maxLen; decide) (by omega), zBe, zOm, ?_, ?_, ?_, ?_, ?_⟩ <;> simp [go_sem, *, World.cell?_alloc_some]
 case round =>
  obtain ⟨j, X, cx, hj, rfl, rfl, hown, hbw, hsz, bx0, bx1, bx2, bx3, bx4⟩ := hrel
  have hlen : (selN (eligB r need lo hi) j).length ≤ np := by have := selN_len (eligB r need lo hi) j; omega
  have HLE := Lib.hid hlen
  have HBW := Lib.hid hbw
  have HW := Lib.hid hown
  clear hlen hbw hown
  by_cases hlt : j < np
  ·skip
   have hlt' : (j : Int) < np := by omega
   have H9 := Lib.hid (H.out.below HBW.out)
   obtain ⟨g, B', e', ps, rfl, hg, hq, hc, hle, hrd, hlb⟩ := H9.out.profs.prof hlt
   obtain ⟨gU, ub, rfl, hub, cU⟩ := rd_bool H9.out.up (show j < nu by have := HU.out; omega)
   have hgU := H9.out.ltU gU rfl
   have hnu9 : (j : Int) < nu := by have := HU.out; omega
   have HQ := Lib.hid hq
   have HUB := Lib.hid hub
   have HLP := Lib.hid hle
   have HRD := Lib.hid hrd
   have HLB := Lib.hid hlb
   clear hq hub hle hrd hlb
   cases ub
   ·have HE : Hid (selN (eligB r need lo hi) (j + 1) = selN (eligB r need lo hi) j) := Lib.hid (selN_no (eligB_up HUB.out))
    go_wp2_with fail
    refine wp_region_below (by kernel_rfl) (by kernel_rfl) (fun W hW => ?_)
    have X0 : W.cell? ⟨w.heap.size, 2, none⟩ = some (.slice (some ⟨gU, 0, none⟩) nu cu) := by rw [hW]; simp [go_sem, *, World.cell?_alloc_some, World.cell?_setCell_far, Nat.lt_add_right, Nat.ne_of_gt]
    have X1 : W.cell? ⟨gU, j, none⟩ = some (.bool false) := by rw [hW]; simp [go_sem, *, World.cell?_alloc_some, World.cell?_setCell_far, Nat.lt_add_right, Nat.ne_of_gt]
    have WS0 : w.heap.size < W.heap.size := by rw [hW]; simp; omega
    have WSU : gU < W.heap.size := by rw [hW]; simp; omega
    have WB : Hid (Below wr.heap.size wr W) := Lib.hid (by rw [hW]; exact zBe)
    clear hW
    show Det0 _ _ _ _ _ (_ :: _) _
    ((try dsimp only); repeat (first | (refine Det0.skip ?_ ?_; (focus (rfl; done)); (try simp only [putA, zgd, zgf, zge])) | (refine Det0.pure ?_ ?_ ?_ ?_; rotate_left; (focus (rfl; done)); (focus ((intro w9 hJ); (have hk0 := fun o => hJ.cell (p := ⟨w.heap.size, o, none⟩) WS0; have hk1 := fun o => hJ.cell (p := ⟨gU, o, none⟩) WSU); go_simp; (first | with_reducible rfl | exact eq_if3 | exact neq_if3 | skip); done)); (try simp only [putA, zgd, zgf, zge])) | (refine Det0.step ?_ ?_ ?_ ?_; rotate_left; (focus (rfl; done)); (focus ((intro w9 K hJ hK); (have hk0 := fun o => hJ.cell (p := ⟨w.heap.size, o, none⟩) WS0; have hk1 := fun o => hJ.cell (p := ⟨gU, o, none⟩) WSU); go_simp; (fail); done)); (try simp only [putA, zgd, zgf, zge]))))
    refine Det0.nil (fun w9 hJ => ?_)
    go_wp2
    go_roundw
    case rel =>
     have hB9 : Below wr.heap.size wr w9 := zAc WB.out hJ
     have hs9 := hB9.size
     refine ⟨j + 1, X, cx, by omega, by go_num, ?_, ?_, zAc HBW.out hB9, by omega, (hB9.cell (p := ⟨w.heap.size, 2, none⟩) (show w.heap.size < wr.heap.size by omega)).trans bx0, (hB9.cell (p := ⟨w.heap.size, 3, none⟩) (show w.heap.size < wr.heap.size by omega)).trans bx1, (hB9.cell (p := ⟨w.heap.size + 1, 0, none⟩) (show w.heap.size + 1 < wr.heap.size by omega)).trans bx2, (hB9.cell (p := ⟨w.heap.size + 1, 1, none⟩) (show w.heap.size + 1 < wr.heap.size by omega)).trans bx3, (hB9.cell (p := ⟨w.heap.size + 1, 2, none⟩) (show w.heap.size + 1 < wr.heap.size by omega)).trans bx4⟩
     ·rw [HE.out]
     ·rw [HE.out]; exact zAe HW.out hB9
    case measure => simp [intOf]; omega
   ·obtain ⟨lv, hlv⟩ : ∃ y, y = leastV lo hi ps := ⟨_, rfl⟩
    have hLC : ∀ w', Below wr.heap.size wr w' → Calls Tryz.prog 141 #[.agg #[.slice B' ps.length e'], .int .i64 lo, .int .i64 hi] w' fun e w9 => e = .returned (.agg #[.int .i64 lv.A, .int .i64 lv.B, .int .i64 lv.C]) ∧ Below w'.heap.size w' w9 := by
     intro w' hb; rw [hlv]
     exact least_any B' ps.length e' ps lo hi w' HLP.out (HRD.out.below HLB.out hb) (zAi HLB.out hb)
    have HLV := Lib.hid hlv
    clear hlv
    cases hfit : fitV need lv
    ·have HE : Hid (selN (eligB r need lo hi) (j + 1) = selN (eligB r need lo hi) j) := Lib.hid (selN_no (by rw [eligB_at HUB.out HQ.out, ← HLV.out]; exact hfit))
     have hFC : ∀ w', Calls Tryz.prog 140 #[.agg #[.int .i64 need.A, .int .i64 need.B, .int .i64 need.C], .agg #[.int .i64 lv.A, .int .i64 lv.B, .int .i64 lv.C]] w' fun e w9 => e = .returned (.bool false) ∧ Below w'.heap.size w' w9 := by
      intro w'; rw [← hfit]; exact vecFits_raw _ _ _ _ _ _ w'
     clear hfit
     go_wp2_with fail
     go_region_held3 (fun w' => w'.cell? ⟨w.heap.size, 2, none⟩ = some (.slice (some ⟨gU, 0, none⟩) nu cu) ∧ w'.cell? ⟨gU, j, none⟩ = some (.bool true) ∧ w'.cell? ⟨w.heap.size + 1, 0, none⟩ = some (.int .i64 need.A) ∧ w'.cell? ⟨w.heap.size + 1, 1, none⟩ = some (.int .i64 need.B) ∧ w'.cell? ⟨w.heap.size + 1, 2, none⟩ = some (.int .i64 need.C) ∧ w'.cell? ⟨wr.heap.size, 0, none⟩ = some (.slice B' ps.length e')) (simp [go_sem, *, World.cell?_alloc_some, World.cell?_setCell_far, Nat.lt_add_right, Nat.ne_of_gt]) (first | (go_at_call 141; refine (hLC _ (by repeat (first | exact Below.refl _ _ | assumption | (refine zAc ?_ (zAa _ _)) | (refine Below.setCell ?_ (by simp <;> omega) _) | refine Below.drew ?_ | (refine zAc ?_ (zAd _ _))))).mono ?_; rintro e w5 ⟨rfl, hb5⟩; have hs5 := hb5.size; (try simp at hs5); have hy50 : w.heap.size < w5.heap.size := (by omega); have hk50 := fun o => hb5.cell (p := ⟨w.heap.size, o, none⟩) zOm; have hg50 := fun o => hb5.frozen (p := ⟨w.heap.size, o, none⟩) zOm; have hy51 : w.heap.size + 1 < w5.heap.size := (by omega); have hk51 := fun o => hb5.cell (p := ⟨w.heap.size + 1, o, none⟩) zOm; have hg51 := fun o => hb5.frozen (p := ⟨w.heap.size + 1, o, none⟩) zOm; have hy52 : gU < w5.heap.size := (by omega); have hk52 := fun o => hb5.cell (p := ⟨gU, o, none⟩) zOm; have hg52 := fun o => hb5.frozen (p := ⟨gU, o, none⟩) zOm; have hy53 : wr.heap.size < w5.heap.size := (by omega); have hk53 := fun o => hb5.cell (p := ⟨wr.heap.size, o, none⟩) zOm; have hg53 := fun o => hb5.frozen (p := ⟨wr.heap.size, o, none⟩) zOm) | (go_at_call 140; refine (hFC _).mono ?_; rintro e w6 ⟨rfl, hb6⟩; have hs6 := hb6.size; (try simp at hs6); have hy60 : w.heap.size < w6.heap.size := (by omega); have hk60 := fun o => hb6.cell (p := ⟨w.heap.size, o, none⟩) zOm; have hg60 := fun o => hb6.frozen (p := ⟨w.heap.size, o, none⟩) zOm; have hy61 : w.heap.size + 1 < w6.heap.size := (by omega); have hk61 := fun o => hb6.cell (p := ⟨w.heap.size + 1, o, none⟩) zOm; have hg61 := fun o => hb6.frozen (p := ⟨w.heap.size + 1, o, none⟩) zOm; have hy62 : gU < w6.heap.size := (by omega); have hk62 := fun o => hb6.cell (p := ⟨gU, o, none⟩) zOm; have hg62 := fun o => hb6.frozen (p := ⟨gU, o, none⟩) zOm; have hy63 : wr.heap.size < w6.heap.size := (by omega); have hk63 := fun o => hb6.cell (p := ⟨wr.heap.size, o, none⟩) zOm; have hg63 := fun o => hb6.frozen (p := ⟨wr.heap.size, o, none⟩) zOm))
     have hB6 : Below wr.heap.size wr w6 := zBe
     have HB6 := Lib.hid hB6
     clear hk50 hg50 hk51 hg51 hk52 hg52 hk53 hg53 hk60 hg60 hk61 hg61 hk62 hg62 hk63 hg63 hb5 hb6 hB6 hLC hFC
     go_wp2
     go_roundw
     case rel =>
      have hB9 : Below wr.heap.size wr w6 := HB6.out
      have hs9 := hB9.size
      refine ⟨j + 1, X, cx, by omega, by go_num, ?_, ?_, zAc HBW.out hB9, by omega, (hB9.cell (p := ⟨w.heap.size, 2, none⟩) (show w.heap.size < wr.heap.size by omega)).trans bx0, (hB9.cell (p := ⟨w.heap.size, 3, none⟩) (show w.heap.size < wr.heap.size by omega)).trans bx1, (hB9.cell (p := ⟨w.heap.size + 1, 0, none⟩) (show w.heap.size + 1 < wr.heap.size by omega)).trans bx2, (hB9.cell (p := ⟨w.heap.size + 1, 1, none⟩) (show w.heap.size + 1 < wr.heap.size by omega)).trans bx3, (hB9.cell (p := ⟨w.heap.size + 1, 2, none⟩) (show w.heap.size + 1 < wr.heap.size by omega)).trans bx4⟩
      ·rw [HE.out]
      ·rw [HE.out]; exact zAe HW.out hB9
     case measure => simp [intOf]; omega
    ·have HE : Hid (selN (eligB r need lo hi) (j + 1) = selN (eligB r need lo hi) j ++ [(j : Int)]) := Lib.hid (selN_yes (by rw [eligB_at HUB.out HQ.out, ← HLV.out]; exact hfit))
     have hFC : ∀ w', Calls Tryz.prog 140 #[.agg #[.int .i64 need.A, .int .i64 need.B, .int .i64 need.C], .agg #[.int .i64 lv.A, .int .i64 lv.B, .int .i64 lv.C]] w' fun e w9 => e = .returned (.bool true) ∧ Below w'.heap.size w' w9 := by
      intro w'; rw [← hfit]; exact vecFits_raw _ _ _ _ _ _ w'
     clear hfit
     go_wp2_with fail
     go_region_held3 (fun w' => w'.cell? ⟨w.heap.size, 2, none⟩ = some (.slice (some ⟨gU, 0, none⟩) nu cu) ∧ w'.cell? ⟨gU, j, none⟩ = some (.bool true) ∧ w'.cell? ⟨w.heap.size + 1, 0, none⟩ = some (.int .i64 need.A) ∧ w'.cell? ⟨w.heap.size + 1, 1, none⟩ = some (.int .i64 need.B) ∧ w'.cell? ⟨w.heap.size + 1, 2, none⟩ = some (.int .i64 need.C) ∧ w'.cell? ⟨wr.heap.size, 0, none⟩ = some (.slice B' ps.length e')) (simp [go_sem, *, World.cell?_alloc_some, World.cell?_setCell_far, Nat.lt_add_right, Nat.ne_of_gt]) (first | (go_at_call 141; refine (hLC _ (by repeat (first | exact Below.refl _ _ | assumption | (refine zAc ?_ (zAa _ _)) | (refine Below.setCell ?_ (by simp <;> omega) _) | refine Below.drew ?_ | (refine zAc ?_ (zAd _ _))))).mono ?_; rintro e w5 ⟨rfl, hb5⟩; have hs5 := hb5.size; (try simp at hs5); have hy50 : w.heap.size < w5.heap.size := (by omega); have hk50 := fun o => hb5.cell (p := ⟨w.heap.size, o, none⟩) zOm; have hg50 := fun o => hb5.frozen (p := ⟨w.heap.size, o, none⟩) zOm; have hy51 : w.heap.size + 1 < w5.heap.size := (by omega); have hk51 := fun o => hb5.cell (p := ⟨w.heap.size + 1, o, none⟩) zOm; have hg51 := fun o => hb5.frozen (p := ⟨w.heap.size + 1, o, none⟩) zOm; have hy52 : gU < w5.heap.size := (by omega); have hk52 := fun o => hb5.cell (p := ⟨gU, o, none⟩) zOm; have hg52 := fun o => hb5.frozen (p := ⟨gU, o, none⟩) zOm; have hy53 : wr.heap.size < w5.heap.size := (by omega); have hk53 := fun o => hb5.cell (p := ⟨wr.heap.size, o, none⟩) zOm; have hg53 := fun o => hb5.frozen (p := ⟨wr.heap.size, o, none⟩) zOm) | (go_at_call 140; refine (hFC _).mono ?_; rintro e w6 ⟨rfl, hb6⟩; have hs6 := hb6.size; (try simp at hs6); have hy60 : w.heap.size < w6.heap.size := (by omega); have hk60 := fun o => hb6.cell (p := ⟨w.heap.size, o, none⟩) zOm; have hg60 := fun o => hb6.frozen (p := ⟨w.heap.size, o, none⟩) zOm; have hy61 : w.heap.size + 1 < w6.heap.size := (by omega); have hk61 := fun o => hb6.cell (p := ⟨w.heap.size + 1, o, none⟩) zOm; have hg61 := fun o => hb6.frozen (p := ⟨w.heap.size + 1, o, none⟩) zOm; have hy62 : gU < w6.heap.size := (by omega); have hk62 := fun o => hb6.cell (p := ⟨gU, o, none⟩) zOm; have hg62 := fun o => hb6.frozen (p := ⟨gU, o, none⟩) zOm; have hy63 : wr.heap.size < w6.heap.size := (by omega); have hk63 := fun o => hb6.cell (p := ⟨wr.heap.size, o, none⟩) zOm; have hg63 := fun o => hb6.frozen (p := ⟨wr.heap.size, o, none⟩) zOm))
     have hB6 : Below wr.heap.size wr w6 := zBe
     have HB6 := Lib.hid hB6
     clear hk50 hg50 hk51 hg51 hk52 hg52 hk53 hg53 hk60 hg60 hk61 hg61 hk62 hg62 hk63 hg63 hb5 hb6 hB6 hLC hFC hy50 hy51 hy52 hy53 hy60 hy61 hy62 hy63 hs5
     have hB9 : Below wr.heap.size wr w6 := HB6.out
     have hs9 := hB9.size
     have HB9 := Lib.hid hB9
     have own9 := zAe HW.out hB9
     have hsz9 : w.heap.size + 1 + 1 ≤ w6.heap.size := by omega
     have y0 := (hB9.cell (p := ⟨w.heap.size, 2, none⟩) (show w.heap.size < wr.heap.size by omega)).trans bx0
     have y1 := (hB9.cell (p := ⟨w.heap.size, 3, none⟩) (show w.heap.size < wr.heap.size by omega)).trans bx1
     have y2 := (hB9.cell (p := ⟨w.heap.size + 1, 0, none⟩) (show w.heap.size + 1 < wr.heap.size by omega)).trans bx2
     have y3 := (hB9.cell (p := ⟨w.heap.size + 1, 1, none⟩) (show w.heap.size + 1 < wr.heap.size by omega)).trans bx3
     have y4 := (hB9.cell (p := ⟨w.heap.size + 1, 2, none⟩) (show w.heap.size + 1 < wr.heap.size by omega)).trans bx4
     clear hB9
     obtain ⟨i0, hi, hz0, hz1, hz2⟩ := info_parts infoI
     go_wp2_with (at_builtin; refine wpList_append_own _ rfl _ _ 23 rfl (w.heap.size + 1 + 1) 3 i0 (.int .i64 0) 1 8 Tryz.underlying23 hi hz0 hz1 hz2 rfl (by decide) _ _ _ rfl (own9.alloc _) ⟨w6.heap.size, 0, none⟩ 1 1 [.int .i64 (j : Int)] rfl rfl ?c1 ?c2 ?c3 ?c4 ?c5 ?_)
     try case c1 =>
      intro j y hy
      match j, hy with
      | 0, hy => (simp at hy; subst hy; simp [Addr.add])
     try case c2 => simp [Value.oneCell']
     case c3 => unfold maxLen; have := HNP.out; have := HLE.out; omega
     case c4 => have := HNP.out; have := HLE.out; omega
     try case c5 => first | omega | (simp <;> omega)
     intro v' w4 own4 hg4 _
     obtain ⟨X', cx', rfl, _⟩ := zAq own4
     have hs4 := hg4.size
     (try simp at hs4)
     have x0 := (World.cell?_of_block (a := ⟨w.heap.size, 2, none⟩) (hg4.block (w.heap.size) (by simp <;> omega) (fun e => by have := zAu own9 _ e.symm; omega))).trans (((zAa w6 _).cell (p := ⟨w.heap.size, 2, none⟩) (show w.heap.size < w6.heap.size by omega)).trans y0)
     have x1 := (World.cell?_of_block (a := ⟨w.heap.size, 3, none⟩) (hg4.block (w.heap.size) (by simp <;> omega) (fun e => by have := zAu own9 _ e.symm; omega))).trans (((zAa w6 _).cell (p := ⟨w.heap.size, 3, none⟩) (show w.heap.size < w6.heap.size by omega)).trans y1)
     have x2 := (World.cell?_of_block (a := ⟨w.heap.size + 1, 0, none⟩) (hg4.block (w.heap.size + 1) (by simp <;> omega) (fun e => by have := zAu own9 _ e.symm; omega))).trans (((zAa w6 _).cell (p := ⟨w.heap.size + 1, 0, none⟩) (show w.heap.size + 1 < w6.heap.size by omega)).trans y2)
     have x3 := (World.cell?_of_block (a := ⟨w.heap.size + 1, 1, none⟩) (hg4.block (w.heap.size + 1) (by simp <;> omega) (fun e => by have := zAu own9 _ e.symm; omega))).trans (((zAa w6 _).cell (p := ⟨w.heap.size + 1, 1, none⟩) (show w.heap.size + 1 < w6.heap.size by omega)).trans y3)
     have x4 := (World.cell?_of_block (a := ⟨w.heap.size + 1, 2, none⟩) (hg4.block (w.heap.size + 1) (by simp <;> omega) (fun e => by have := zAu own9 _ e.symm; omega))).trans (((zAa w6 _).cell (p := ⟨w.heap.size + 1, 2, none⟩) (show w.heap.size + 1 < w6.heap.size by omega)).trans y4)
     have hB4 : Below w.heap.size w w4 := Below.grown ((zAc HBW.out HB9.out).alloc (by have := HBW.out.size; omega) _) hg4 (by simp; have := HBW.out.size; omega) (fun k hk => by have := zAu own9 k hk; omega)
     have HO4 := Lib.hid own4
     clear own4 hg4 hz0 hz1 hz2 hi own9
     go_wp2
     go_roundw
     case rel =>
      refine ⟨j + 1, X', cx', by omega, by go_num, ?_, ?_, hB4, by omega, x0, x1, x2, x3, x4⟩
      ·rw [HE.out, List.length_append]; rfl
      ·rw [HE.out, List.length_append]
       have := HO4.out
       simpa [ints] using this
     case measure => simp [intOf]; omega
  ·have hj9 : j = np := by omega
   subst hj9
   go_wp2
   go_ret
   exact ⟨_, rfl, by rw [HF.out]; exact zAm HW.out (by omega), HBW.out⟩
set_option maxHeartbeats 4000000 in
theorem sEligible_any (a : RA) (r : Rm) (need : V) (lo hi : Int) (w : World) (h : RoomRd w a r) :
  Calls Tryz.prog 206 #[a.v, .agg #[.int .i64 need.A, .int .i64 need.B, .int .i64 need.C], .int .i64 lo, .int .i64 hi] w fun e w' => ∃ v, e = .returned v ∧ w'.ownsRow w.heap.size 3 1 v (EligV r need lo hi).length (ints (EligV r need lo hi)) ∧ Below w.heap.size w w' := by
 obtain ⟨l1, l2, l3, l4, l5⟩ := h.lens
 obtain ⟨A, B, U, R, L, n, m, nu, np, nl, c, d, cu, cp, cl⟩ := a
 dsimp only [RA.v]
 dsimp only at *
 have H := Lib.hid h
 have HNP : Hid (np ≤ 1048576) := Lib.hid h.np
 have L3 := Lib.hid l3
 have L4 := Lib.hid l4
 have L2 := Lib.hid l2
 clear h l1 l2 l3 l4 l5
 cases hok : r.okB
 ·have HE : Hid (EligV r need lo hi = []) := Lib.hid (elig_no (by rw [hok]; rfl))
  have HK := Lib.hid hok
  clear hok
  go_enter Tryz.func206, Tryz.ntmps206
  go_wp2_with fail
  refine (sroomOk_any ⟨A, B, U, R, L, n, m, nu, np, nl, c, d, cu, cp, cl⟩ r _ (H.out.below zBe)).mono ?_
  rintro e w1 ⟨rfl, hb1⟩
  have hs1 := hb1.size
  (try simp at hs1)
  have hy10 : w.heap.size < w1.heap.size := by omega
  have hk10 := fun o => hb1.cell (p := ⟨w.heap.size, o, none⟩) zOm
  have hg10 := fun o => hb1.frozen (p := ⟨w.heap.size, o, none⟩) zOm
  have hy11 : w.heap.size + 1 < w1.heap.size := by omega
  have hk11 := fun o => hb1.cell (p := ⟨w.heap.size + 1, o, none⟩) zOm
  have hg11 := fun o => hb1.frozen (p := ⟨w.heap.size + 1, o, none⟩) zOm
  rw [HK.out]
  go_wp2
  go_ret
  exact ⟨_, rfl, by rw [HE.out]; exact own_lit (cs := []) (zAf (zAj _ (by simp)) hb1) rfl (by decide) (by omega), zBe⟩
 ·have HE : Hid (EligV r need lo hi = selN (eligS r need lo hi) np) := Lib.hid (elig_sel hok L4.out)
  have HU : Hid (np ≤ nu) := Lib.hid (by have := room_parts hok; have := L3.out; have := L4.out; have h2 := this; omega)
  have HPO : Hid (∀ p ∈ r.profs, zAv p = true) := Lib.hid (room_parts hok).2.2.2.1
  have HK := Lib.hid hok
  have hnp := HNP.out
  clear hok
  go_enter Tryz.func206, Tryz.ntmps206
  go_wp2_with fail
  refine (sroomOk_any ⟨A, B, U, R, L, n, m, nu, np, nl, c, d, cu, cp, cl⟩ r _ (H.out.below zBe)).mono ?_
  rintro e w1 ⟨rfl, hb1⟩
  have hs1 := hb1.size
  (try simp at hs1)
  have hy10 : w.heap.size < w1.heap.size := by omega
  have hk10 := fun o => hb1.cell (p := ⟨w.heap.size, o, none⟩) zOm
  have hg10 := fun o => hb1.frozen (p := ⟨w.heap.size, o, none⟩) zOm
  have hy11 : w.heap.size + 1 < w1.heap.size := by omega
  have hk11 := fun o => hb1.cell (p := ⟨w.heap.size + 1, o, none⟩) zOm
  have hg11 := fun o => hb1.frozen (p := ⟨w.heap.size + 1, o, none⟩) zOm
  rw [HK.out]
  go_wp2
  go_loopw [9, 21] (fun v i wr => ∃ (j : Nat) (X : Option Addr) (cx : Nat), j ≤ np ∧ i = .int .i64 j ∧ v = .slice X (selN (eligS r need lo hi) j).length cx ∧ wr.ownsRow (w.heap.size + 1 + 1) 3 1 (.slice X (selN (eligS r need lo hi) j).length cx) (selN (eligS r need lo hi) j).length (ints (selN (eligS r need lo hi) j)) ∧ Below w.heap.size w wr ∧ w.heap.size + 1 + 1 ≤ wr.heap.size ∧ wr.cell? ⟨w.heap.size, 2, none⟩ = some (.slice U nu cu) ∧ wr.cell? ⟨w.heap.size, 3, none⟩ = some (.slice R np cp) ∧ wr.cell? ⟨w.heap.size + 1, 0, none⟩ = some (.int .i64 need.A) ∧ wr.cell? ⟨w.heap.size + 1, 1, none⟩ = some (.int .i64 need.B) ∧ wr.cell? ⟨w.heap.size + 1, 2, none⟩ = some (.int .i64 need.C)) (fun _ i _ => np - (intOf i).toNat)
  case atStart =>
   refine ⟨0, _, 0, Nat.zero_le _, rfl, rfl, own_lit (cs := []) (zAf (zAj _ (by simp)) hb1) rfl (by show 0 ≤ maxLen; decide) (by omega), zBe, zOm, ?_, ?_, ?_, ?_, ?_⟩ <;> simp [go_sem, *, World.cell?_alloc_some]
  case round =>
   obtain ⟨j, X, cx, hj, rfl, rfl, hown, hbw, hsz, bx0, bx1, bx2, bx3, bx4⟩ := hrel
   have hlen : (selN (eligS r need lo hi) j).length ≤ np := by have := selN_len (eligS r need lo hi) j; omega
   have HLE := Lib.hid hlen
   have HBW := Lib.hid hbw
   have HW := Lib.hid hown
   clear hlen hbw hown
   by_cases hlt : j < np
   ·skip
    have hlt' : (j : Int) < np := by omega
    have H9 := Lib.hid (H.out.below HBW.out)
    obtain ⟨g, B', e', ps, rfl, hg, hq, hc, hle, hrd, hlb⟩ := H9.out.profs.prof hlt
    obtain ⟨gU, ub, rfl, hub, cU⟩ := rd_bool H9.out.up (show j < nu by have := HU.out; omega)
    have hgU := H9.out.ltU gU rfl
    have hnu9 : (j : Int) < nu := by have := HU.out; omega
    have HQ := Lib.hid hq
    have HUB := Lib.hid hub
    have HLP := Lib.hid hle
    have HRD := Lib.hid hrd
    have HLB := Lib.hid hlb
    clear hq hub hle hrd hlb
    have HPK : Hid (zAv ps = true) := Lib.hid (HPO.out _ (List.mem_of_getElem? HQ.out))
    cases hsp : spanB lo hi
    ·have HE1 : Hid (selN (eligS r need lo hi) (j + 1) = selN (eligS r need lo hi) j) := Lib.hid (selN_no (by unfold eligS; rw [hsp]; rfl))
     have hMB : minB ps lo hi = false := by unfold minB; rw [hsp, Bool.and_false]
     have HMB := Lib.hid hMB
     clear hMB hsp
     go_wp2_with fail
     refine (sprofMin_any B' ps.length e' ps lo hi _ HLP.out (HRD.out.below HLB.out zBe) (zAi HLB.out zBe)).mono ?_
     rintro e w5 ⟨rfl, hb5⟩
     rw [HMB.out]
     have hs5 := hb5.size
     (try simp at hs5)
     have HB5 := Lib.hid (show Below wr.heap.size wr (w5.alloc (.cells #[.int .i64 (minVv ps lo hi).A, .int .i64 (minVv ps lo hi).B, .int .i64 (minVv ps lo hi).C] 73)) from zBe)
     go_wp2
     go_roundw
     case rel =>
      have hB9 : Below wr.heap.size wr (w5.alloc (.cells #[.int .i64 (minVv ps lo hi).A, .int .i64 (minVv ps lo hi).B, .int .i64 (minVv ps lo hi).C] 73)) := HB5.out
      have hs9 := hB9.size
      refine ⟨j + 1, X, cx, by omega, by go_num, ?_, ?_, zAc HBW.out hB9, by omega, (hB9.cell (p := ⟨w.heap.size, 2, none⟩) (show w.heap.size < wr.heap.size by omega)).trans bx0, (hB9.cell (p := ⟨w.heap.size, 3, none⟩) (show w.heap.size < wr.heap.size by omega)).trans bx1, (hB9.cell (p := ⟨w.heap.size + 1, 0, none⟩) (show w.heap.size + 1 < wr.heap.size by omega)).trans bx2, (hB9.cell (p := ⟨w.heap.size + 1, 1, none⟩) (show w.heap.size + 1 < wr.heap.size by omega)).trans bx3, (hB9.cell (p := ⟨w.heap.size + 1, 2, none⟩) (show w.heap.size + 1 < wr.heap.size by omega)).trans bx4⟩
      ·rw [HE1.out]
      ·rw [HE1.out]; exact zAe HW.out hB9
     case measure => simp [intOf]; omega
    ·obtain ⟨lv, hlv⟩ : ∃ y, y = leastV lo hi ps := ⟨_, rfl⟩
     have hMB : minB ps lo hi = true := by unfold minB; rw [hsp, HPK.out]; rfl
     have hMV : minVv ps lo hi = lv := by unfold minVv; rw [hMB, hlv]; rfl
     have HMB := Lib.hid hMB
     have HMV := Lib.hid hMV
     have HSP := Lib.hid hsp
     have HLV := Lib.hid hlv
     clear hMB hMV hsp hlv
     have hEE : eligS r need lo hi j = eligB r need lo hi j := by unfold eligS; rw [HSP.out]; rfl
     have HEE := Lib.hid hEE
     clear hEE
     go_wp2_with fail
     refine (sprofMin_any B' ps.length e' ps lo hi _ HLP.out (HRD.out.below HLB.out zBe) (zAi HLB.out zBe)).mono ?_
     rintro e w5 ⟨rfl, hb5⟩
     rw [HMB.out, HMV.out]
     have hs5 := hb5.size
     (try simp at hs5)
     have HB5 := Lib.hid (show Below wr.heap.size wr (w5.alloc (.cells #[.int .i64 lv.A, .int .i64 lv.B, .int .i64 lv.C] 73)) from zBe)
     have hk50 := fun o => hb5.cell (p := ⟨w.heap.size, o, none⟩) zOm
     have hk51 := fun o => hb5.cell (p := ⟨w.heap.size + 1, o, none⟩) zOm
     have hk5U := fun o => hb5.cell (p := ⟨gU, o, none⟩) zOm
     have hy50 : w.heap.size < w5.heap.size := by omega
     have hy51 : w.heap.size + 1 < w5.heap.size := by omega
     have hy5U : gU < w5.heap.size := by omega
     cases ub
     ·have HE1 : Hid (selN (eligS r need lo hi) (j + 1) = selN (eligS r need lo hi) j) := Lib.hid (selN_no (by rw [HEE.out]; exact eligB_up HUB.out))
      go_wp2
      go_roundw
      case rel =>
       have hB9 : Below wr.heap.size wr (w5.alloc (.cells #[.int .i64 lv.A, .int .i64 lv.B, .int .i64 lv.C] 73)) := HB5.out
       have hs9 := hB9.size
       refine ⟨j + 1, X, cx, by omega, by go_num, ?_, ?_, zAc HBW.out hB9, by omega, (hB9.cell (p := ⟨w.heap.size, 2, none⟩) (show w.heap.size < wr.heap.size by omega)).trans bx0, (hB9.cell (p := ⟨w.heap.size, 3, none⟩) (show w.heap.size < wr.heap.size by omega)).trans bx1, (hB9.cell (p := ⟨w.heap.size + 1, 0, none⟩) (show w.heap.size + 1 < wr.heap.size by omega)).trans bx2, (hB9.cell (p := ⟨w.heap.size + 1, 1, none⟩) (show w.heap.size + 1 < wr.heap.size by omega)).trans bx3, (hB9.cell (p := ⟨w.heap.size + 1, 2, none⟩) (show w.heap.size + 1 < wr.heap.size by omega)).trans bx4⟩
       ·rw [HE1.out]
       ·rw [HE1.out]; exact zAe HW.out hB9
      case measure => simp [intOf]; omega
     ·cases hfit : fitV need lv
      ·have HE1 : Hid (selN (eligS r need lo hi) (j + 1) = selN (eligS r need lo hi) j) := Lib.hid (selN_no (by rw [HEE.out, eligB_at HUB.out HQ.out, ← HLV.out]; exact hfit))
       have HFT : Hid (fitsB need.A need.B need.C lv.A lv.B lv.C = false) := Lib.hid hfit
       clear hfit
       go_wp2_with fail
       refine (svecFits_raw _ _ _ _ _ _ _).mono ?_
       rintro e w6 ⟨rfl, hb6⟩
       rw [HFT.out]
       have HB6 := Lib.hid (zAc HB5.out hb6)
       go_wp2
       go_roundw
       case rel =>
        have hB9 : Below wr.heap.size wr w6 := HB6.out
        have hs9 := hB9.size
        refine ⟨j + 1, X, cx, by omega, by go_num, ?_, ?_, zAc HBW.out hB9, by omega, (hB9.cell (p := ⟨w.heap.size, 2, none⟩) (show w.heap.size < wr.heap.size by omega)).trans bx0, (hB9.cell (p := ⟨w.heap.size, 3, none⟩) (show w.heap.size < wr.heap.size by omega)).trans bx1, (hB9.cell (p := ⟨w.heap.size + 1, 0, none⟩) (show w.heap.size + 1 < wr.heap.size by omega)).trans bx2, (hB9.cell (p := ⟨w.heap.size + 1, 1, none⟩) (show w.heap.size + 1 < wr.heap.size by omega)).trans bx3, (hB9.cell (p := ⟨w.heap.size + 1, 2, none⟩) (show w.heap.size + 1 < wr.heap.size by omega)).trans bx4⟩
        ·rw [HE1.out]
        ·rw [HE1.out]; exact zAe HW.out hB9
       case measure => simp [intOf]; omega
      ·have HE1 : Hid (selN (eligS r need lo hi) (j + 1) = selN (eligS r need lo hi) j ++ [(j : Int)]) := Lib.hid (selN_yes (by rw [HEE.out, eligB_at HUB.out HQ.out, ← HLV.out]; exact hfit))
       have HFT : Hid (fitsB need.A need.B need.C lv.A lv.B lv.C = true) := Lib.hid hfit
       clear hfit
       go_wp2_with fail
       refine (svecFits_raw _ _ _ _ _ _ _).mono ?_
       rintro e w6 ⟨rfl, hb6⟩
       rw [HFT.out]
       have HB6 := Lib.hid (zAc HB5.out hb6)
       clear hb5 hb6 hk50 hk51 hk5U hy50 hy51 hy5U hs5
       have hB9 : Below wr.heap.size wr w6 := HB6.out
       have hs9 := hB9.size
       have HB9 := Lib.hid hB9
       have own9 := zAe HW.out hB9
       have hsz9 : w.heap.size + 1 + 1 ≤ w6.heap.size := by omega
       have y0 := (hB9.cell (p := ⟨w.heap.size, 2, none⟩) (show w.heap.size < wr.heap.size by omega)).trans bx0
       have y1 := (hB9.cell (p := ⟨w.heap.size, 3, none⟩) (show w.heap.size < wr.heap.size by omega)).trans bx1
       have y2 := (hB9.cell (p := ⟨w.heap.size + 1, 0, none⟩) (show w.heap.size + 1 < wr.heap.size by omega)).trans bx2
       have y3 := (hB9.cell (p := ⟨w.heap.size + 1, 1, none⟩) (show w.heap.size + 1 < wr.heap.size by omega)).trans bx3
       have y4 := (hB9.cell (p := ⟨w.heap.size + 1, 2, none⟩) (show w.heap.size + 1 < wr.heap.size by omega)).trans bx4
       clear hB9
       obtain ⟨i0, hi, hz0, hz1, hz2⟩ := info_parts infoI
       go_wp2_with (at_builtin; refine wpList_append_own _ rfl _ _ 23 rfl (w.heap.size + 1 + 1) 3 i0 (.int .i64 0) 1 8 Tryz.underlying23 hi hz0 hz1 hz2 rfl (by decide) _ _ _ rfl (own9.alloc _) ⟨w6.heap.size, 0, none⟩ 1 1 [.int .i64 (j : Int)] rfl rfl ?c1 ?c2 ?c3 ?c4 ?c5 ?_)
       try case c1 =>
        intro j y hy
        match j, hy with
        | 0, hy => (simp at hy; subst hy; simp [Addr.add])
       try case c2 => simp [Value.oneCell']
       case c3 => unfold maxLen; have := HNP.out; have := HLE.out; omega
       case c4 => have := HNP.out; have := HLE.out; omega
       try case c5 => first | omega | (simp <;> omega)
       intro v' w4 own4 hg4 _
       obtain ⟨X', cx', rfl, _⟩ := zAq own4
       have hs4 := hg4.size
       (try simp at hs4)
       have x0 := (World.cell?_of_block (a := ⟨w.heap.size, 2, none⟩) (hg4.block (w.heap.size) (by simp <;> omega) (fun e => by have := zAu own9 _ e.symm; omega))).trans (((zAa w6 _).cell (p := ⟨w.heap.size, 2, none⟩) (show w.heap.size < w6.heap.size by omega)).trans y0)
       have x1 := (World.cell?_of_block (a := ⟨w.heap.size, 3, none⟩) (hg4.block (w.heap.size) (by simp <;> omega) (fun e => by have := zAu own9 _ e.symm; omega))).trans (((zAa w6 _).cell (p := ⟨w.heap.size, 3, none⟩) (show w.heap.size < w6.heap.size by omega)).trans y1)
       have x2 := (World.cell?_of_block (a := ⟨w.heap.size + 1, 0, none⟩) (hg4.block (w.heap.size + 1) (by simp <;> omega) (fun e => by have := zAu own9 _ e.symm; omega))).trans (((zAa w6 _).cell (p := ⟨w.heap.size + 1, 0, none⟩) (show w.heap.size + 1 < w6.heap.size by omega)).trans y2)
       have x3 := (World.cell?_of_block (a := ⟨w.heap.size + 1, 1, none⟩) (hg4.block (w.heap.size + 1) (by simp <;> omega) (fun e => by have := zAu own9 _ e.symm; omega))).trans (((zAa w6 _).cell (p := ⟨w.heap.size + 1, 1, none⟩) (show w.heap.size + 1 < w6.heap.size by omega)).trans y3)
       have x4 := (World.cell?_of_block (a := ⟨w.heap.size + 1, 2, none⟩) (hg4.block (w.heap.size + 1) (by simp <;> omega) (fun e => by have := zAu own9 _ e.symm; omega))).trans (((zAa w6 _).cell (p := ⟨w.heap.size + 1, 2, none⟩) (show w.heap.size + 1 < w6.heap.size by omega)).trans y4)
       have hB4 : Below w.heap.size w w4 := Below.grown ((zAc HBW.out HB9.out).alloc (by have := HBW.out.size; omega) _) hg4 (by simp; have := HBW.out.size; omega) (fun k hk => by have := zAu own9 k hk; omega)
       have HO4 := Lib.hid own4
       clear own4 hg4 hz0 hz1 hz2 hi own9
       go_wp2
       go_roundw
       case rel =>
        refine ⟨j + 1, X', cx', by omega, by go_num, ?_, ?_, hB4, by omega, x0, x1, x2, x3, x4⟩
        ·rw [HE1.out, List.length_append]; rfl
        ·rw [HE1.out, List.length_append]
         have := HO4.out
         simpa [ints] using this
       case measure => simp [intOf]; omega
   ·have hj9 : j = np := by omega
    subst hj9
    go_wp2
    go_ret
    exact ⟨_, rfl, by rw [HE.out]; exact zAm HW.out (by omega), HBW.out⟩
def atX (xs : List Value) (k : Nat) (b : Nat) : Prop := ∃ i x, i < k ∧ xs[i]? = some x ∧ x.ownBlock = some b
theorem atB_own {A : Option Addr} {n c g : Nat} (h : (Value.slice A n c).ownBlock = some g) : ∃ o t, A = some ⟨g, o, t⟩ := by
 cases A with
 | none => cases h
 | some a => cases h; exact ⟨_, _, rfl⟩
def atR (a : RA) (xs : List Value) (b : Nat) : Prop := atB a.A b ∨ atB a.B b ∨ atB a.U b ∨ atX xs a.np b ∨ atB a.L b
theorem room_rng {w : World} {lo : Nat} {a : RA} {r : Rm} {xs : List Value} (h : RoomOwn w lo a r xs) : ∀ k, atR a xs k → lo ≤ k ∧ k < w.heap.size := by
 rintro k (h1 | h1 | h1 | ⟨i, x, hi, hx, hk⟩ | h1)
 ·exact own_rng h.par k h1
 ·exact own_rng h.nodes k h1
 ·exact own_rng h.up k h1
 ·obtain ⟨ps, hps⟩ : ∃ ps, r.profs[i]? = some ps := ⟨_, zgh (by have := h.profs.len; omega)⟩
  have ho := (h.profs.each i x ps hx hps).2
  obtain ⟨B, c', rfl, _⟩ := zAq ho
  obtain ⟨o, t, rfl⟩ := atB_own hk
  have h2 := zAu ho k rfl
  rcases ho.2 with ⟨h0, _⟩ | ⟨g, cap, cur, hv, hg, hh, _⟩
  ·cases h0
  ·cases hv; exact ⟨hg, zAg hh⟩
 ·exact own_rng h.lics k h1
theorem OwnP.fr {S : Nat → Prop} {w w' : World} {lo : Nat} {A : Option Addr} {n c : Nat} {xs : List Value} {pss : List (List Q)} (h : OwnP w lo (.slice A n c) n xs pss) (hb : Fr S w w') (h1 : ∀ k, atB A k → ¬ S k) (h2 : ∀ k, atX xs n k → ¬ S k) : OwnP w' lo (.slice A n c) n xs pss :=
 ⟨own_fr h.own hb (fun k hk => h1 k (by obtain ⟨o, t, rfl⟩ := atB_own hk; rcases h.own.2 with ⟨h0, _⟩ | ⟨g, cap, cur, hv, _⟩; · cases h0
                                        ·cases hv; cases hk; exact ⟨0, rfl⟩)), h.len, fun k x ps hx hp => ⟨(h.each k x ps hx hp).1, own_fr (h.each k x ps hx hp).2 hb (fun b hk => h2 b ⟨k, x, by have := (List.getElem?_eq_some_iff.1 hx).1; have := h.xlen; omega, hx, hk⟩)⟩, h.apart⟩
end Go.Proofs.YtnphjhbfpoekpaaGreat
