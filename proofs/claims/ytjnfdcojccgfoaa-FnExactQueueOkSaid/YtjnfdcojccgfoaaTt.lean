/-
  Contracts of TopoText.
-/
import Derived.Test.YtjnfdcojccgfoaaTi
import Derived.Test.YtjnfdcojccgfoaaNc
import Derived.Test.YtjnfdcojccgfoaaBx
namespace Go.Proofs.Ytjnfdcojccgfoaa
set_option linter.unusedSimpArgs false
set_option linter.unusedVariables false
set_option linter.unnecessarySimpa false
open Go.RowKit
def swL : ByteArray := ⟨#[115, 119, 105, 116, 99, 104, 32]⟩
def nlB : ByteArray := ⟨#[10]⟩
def noL : ByteArray := ⟨#[110, 111, 100, 101, 32]⟩
def spB : ByteArray := ⟨#[32]⟩
def swF (s : ByteArray) (p : Int) : ByteArray := s ++ swL ++ txtB p ++ nlB
def noF (s : ByteArray) (q : Q) : ByteArray := s ++ noL ++ txtB q.t ++ spB ++ vtxtB q.a q.b q.c ++ nlB
def swN (ps : List Int) : Nat → ByteArray
  | 0 => ⟨#[]⟩
  | k + 1 => swF (swN ps k) (ps.getD (k + 1) 0)
def noN (b : ByteArray) (ns : List Q) : Nat → ByteArray
  | 0 => b
  | k + 1 => noF (noN b ns k) (ns.getD k ⟨0, 0, 0, 0⟩)
def topoTxt (ps : List Int) (ns : List Q) : ByteArray := noN (swN ps (ps.length - 1)) ns ns.length
def topoTextV (ps : List Int) (ns : List Q) : ByteArray := if topoOkB ps ns then topoTxt ps ns else ⟨#[]⟩
theorem vtxtB_size (a b c : Int) : (vtxtB a b c).size ≤ 32 := by
  unfold vtxtB
  split
  · have h1 := txtB_size a
    have h2 := txtB_size b
    have h3 := txtB_size c
    have h4 : slashB.size = 1 := rfl
    simp only [ByteArray.size_append]; omega
  · show 0 ≤ 32; omega
theorem swN_size (ps : List Int) : ∀ k, (swN ps k).size ≤ 18 * k
  | 0 => by show 0 ≤ _; omega
  | k + 1 => by
    have h := swN_size ps k
    have h1 := txtB_size (ps.getD (k + 1) 0)
    have h2 : swL.size = 7 := rfl
    have h3 : nlB.size = 1 := rfl
    show (swF (swN ps k) _).size ≤ _
    unfold swF
    simp only [ByteArray.size_append]; omega
theorem noN_size (b : ByteArray) (ns : List Q) : ∀ k, (noN b ns k).size ≤ b.size + 49 * k
  | 0 => by show b.size ≤ _; omega
  | k + 1 => by
    have h := noN_size b ns k
    have h1 := txtB_size (ns.getD k ⟨0, 0, 0, 0⟩).t
    have h4 := vtxtB_size (ns.getD k ⟨0, 0, 0, 0⟩).a (ns.getD k ⟨0, 0, 0, 0⟩).b (ns.getD k ⟨0, 0, 0, 0⟩).c
    have h2 : noL.size = 5 := rfl
    have h3 : nlB.size = 1 := rfl
    have h5 : spB.size = 1 := rfl
    show (noF (noN b ns k) _).size ≤ _
    unfold noF
    simp only [ByteArray.size_append]; omega
theorem topoTextV_size (ps : List Int) (ns : List Q) : (topoTextV ps ns).size ≤ 1700 := by
  unfold topoTextV
  split
  · rename_i h
    obtain ⟨_, h1, _, h2, _⟩ := topo_parts h
    have h3 := swN_size ps (ps.length - 1)
    have h4 := noN_size (swN ps (ps.length - 1)) ns ns.length
    unfold topoTxt; omega
  · show 0 ≤ 1700; omega
theorem getDq {ns : List Q} {k : Nat} {q : Q} (h : ns[k]? = some q) : ns.getD k ⟨0, 0, 0, 0⟩ = q := by simp [List.getD, h]
theorem own_cap {w : World} {lo : Nat} {e : TypeId} {size : Nat} {A : Option Addr} {n c : Nat} {xs : List Value} (h : w.ownsRow lo e size (.slice A n c) n xs) : n ≤ c ∧ c ≤ maxLen := by
  rcases h with ⟨_, ⟨hv, h0⟩ | ⟨g, cap, cur, hv, _, _, h1, h2, _⟩⟩
  · injection hv with _ a2 a3; subst a3; subst a2; exact ⟨Nat.le_refl _, by decide⟩
  · injection hv with _ _ a3; subst a3; exact ⟨h1, h2⟩

set_option maxHeartbeats 8000000 in
theorem stopoText_any (A B : Option Addr) (n c m d : Nat) (ps : List Int) (ns : List Q) (w : World) (hn : n ≤ 1048576) (hm : m ≤ 1048576) (hr : Rd w A n 1 (ints ps)) (hq : Rd w B m 4 (flat ns)) (hl : ∀ g, A = some ⟨g, 0, none⟩ → g < w.heap.size) (hl2 : ∀ g, B = some ⟨g, 0, none⟩ → g < w.heap.size)  :
    Calls Try.prog 77 #[.agg #[.slice A n c, .slice B m d]] w fun e w' => e = .returned (.string (topoTextV ps ns)) ∧ Below w.heap.size w w' := by
  have hpl := hr.ilen
  have hql : ns.length = m := by have := hq.1; rw [flat_len] at this; omega
  have hn9 : n ≤ 9223372036854775807 := by omega
  have hm9 : m ≤ 9223372036854775807 := by omega
  have HN := Lib.hid hn
  have HM := Lib.hid hm
  have HR := Lib.hid hr
  have HQ := Lib.hid hq
  have HL := Lib.hid hl
  have HL2 := Lib.hid hl2
  have HP := Lib.hid hpl
  have HQL := Lib.hid hql
  clear hn hm hr hq hl hl2 hpl hql
  cases ht : topoOkB ps ns
  · have HF : Hid (topoTextV ps ns = ⟨#[]⟩) := Lib.hid (by unfold topoTextV; rw [ht]; rfl)
    go_enter Try.func77, Try.ntmps77
    go_wp2_with fail
    refine (stopoOk_any A B n c m d ps ns  _ HN.out HM.out (HR.out.below HL.out (by repeat (first | exact Below.refl _ _ | assumption | (refine bstep ?_ (below_drewN _ _)) | exact bstep (by assumption) (by assumption) | (refine bstep ?_ (below_alloc _ _)) | (refine bstep ?_ (by assumption)) | (refine Below.setCell ?_ (by simp <;> omega) _) | refine Below.drew ?_))) (HQ.out.below HL2.out (by repeat (first | exact Below.refl _ _ | assumption | (refine bstep ?_ (below_drewN _ _)) | exact bstep (by assumption) (by assumption) | (refine bstep ?_ (below_alloc _ _)) | (refine bstep ?_ (by assumption)) | (refine Below.setCell ?_ (by simp <;> omega) _) | refine Below.drew ?_))) (lt_below HL.out (by repeat (first | exact Below.refl _ _ | assumption | (refine bstep ?_ (below_drewN _ _)) | exact bstep (by assumption) (by assumption) | (refine bstep ?_ (below_alloc _ _)) | (refine bstep ?_ (by assumption)) | (refine Below.setCell ?_ (by simp <;> omega) _) | refine Below.drew ?_))) (lt_below HL2.out (by repeat (first | exact Below.refl _ _ | assumption | (refine bstep ?_ (below_drewN _ _)) | exact bstep (by assumption) (by assumption) | (refine bstep ?_ (below_alloc _ _)) | (refine bstep ?_ (by assumption)) | (refine Below.setCell ?_ (by simp <;> omega) _) | refine Below.drew ?_)))).mono ?_
    rintro e w1 ⟨rfl, hb1⟩
    rw [ht]
    go_wp2
    go_ret
    exact ⟨congrArg (fun s => Ending.returned (.string s)) HF.out.symm, (by repeat (first | exact Below.refl _ _ | assumption | (refine bstep ?_ (below_drewN _ _)) | exact bstep (by assumption) (by assumption) | (refine bstep ?_ (below_alloc _ _)) | (refine bstep ?_ (by assumption)) | (refine Below.setCell ?_ (by simp <;> omega) _) | refine Below.drew ?_))⟩
  · have HF : Hid (topoTextV ps ns = topoTxt ps ns) := Lib.hid (by unfold topoTextV; rw [ht]; rfl)
    obtain ⟨h1n, h24, _, hm24, _⟩ := topo_parts ht
    rw [HP.out] at h1n h24
    rw [HQL.out] at hm24
    go_enter Try.func77, Try.ntmps77
    go_wp2_with fail
    refine (stopoOk_any A B n c m d ps ns  _ HN.out HM.out (HR.out.below HL.out (by repeat (first | exact Below.refl _ _ | assumption | (refine bstep ?_ (below_drewN _ _)) | exact bstep (by assumption) (by assumption) | (refine bstep ?_ (below_alloc _ _)) | (refine bstep ?_ (by assumption)) | (refine Below.setCell ?_ (by simp <;> omega) _) | refine Below.drew ?_))) (HQ.out.below HL2.out (by repeat (first | exact Below.refl _ _ | assumption | (refine bstep ?_ (below_drewN _ _)) | exact bstep (by assumption) (by assumption) | (refine bstep ?_ (below_alloc _ _)) | (refine bstep ?_ (by assumption)) | (refine Below.setCell ?_ (by simp <;> omega) _) | refine Below.drew ?_))) (lt_below HL.out (by repeat (first | exact Below.refl _ _ | assumption | (refine bstep ?_ (below_drewN _ _)) | exact bstep (by assumption) (by assumption) | (refine bstep ?_ (below_alloc _ _)) | (refine bstep ?_ (by assumption)) | (refine Below.setCell ?_ (by simp <;> omega) _) | refine Below.drew ?_))) (lt_below HL2.out (by repeat (first | exact Below.refl _ _ | assumption | (refine bstep ?_ (below_drewN _ _)) | exact bstep (by assumption) (by assumption) | (refine bstep ?_ (below_alloc _ _)) | (refine bstep ?_ (by assumption)) | (refine Below.setCell ?_ (by simp <;> omega) _) | refine Below.drew ?_)))).mono ?_
    rintro e w1 ⟨rfl, hb1⟩
    rw [ht]
    have hs1 := hb1.size
    (try simp at hs1)
    have hk10 := fun o => hb1.cell (p := ⟨w.heap.size, o, none⟩) (by simp)
    have hy10 : w.heap.size < w1.heap.size := by omega
    clear ht
    go_wp2
    go_loopw [3, 4] (fun a i wr => ∃ k : Nat, 1 ≤ k ∧ k ≤ n ∧ i = .int .i64 k ∧ a = .string (swN ps (k - 1)) ∧ Below w.heap.size w wr ∧ w.heap.size < wr.heap.size ∧ wr.cell? ⟨w.heap.size, 0, none⟩ = some (.slice A n c) ∧ wr.cell? ⟨w.heap.size, 1, none⟩ = some (.slice B m d)) (fun _ i _ => n - (intOf i).toNat)
    case atStart => exact ⟨1, Nat.le_refl _, h1n, rfl, rfl, (by repeat (first | exact Below.refl _ _ | assumption | (refine bstep ?_ (below_drewN _ _)) | exact bstep (by assumption) (by assumption) | (refine bstep ?_ (below_alloc _ _)) | (refine bstep ?_ (by assumption)) | (refine Below.setCell ?_ (by simp <;> omega) _) | refine Below.drew ?_)), hy10, by simp [go_sem, *], by simp [go_sem, *]⟩
    case round =>
      obtain ⟨k, hk1, hk, rfl, rfl, hbw, hy0, bx0, bx1⟩ := hrel
      by_cases hlt : k < n
      · have hlt' : (k : Int) < n := by omega
        obtain ⟨g, z, rfl, hz, d0⟩ := HR.out.int (show k < n by omega)
        have hg := HL.out g rfl
        have D0 : wr.cell? ⟨g, k, none⟩ = some (.int .i64 z) := by rw [show k = k by omega]; exact (hbw.cell (p := ⟨g, k, none⟩) hg).trans d0
        have HZ := Lib.hid (getD_of hz)
        have hzs := swN_size ps (k - 1)
        have hzb : (swN ps (k - 1)).size ≤ 1000 := by omega
        have HNX : Hid (swN ps ((k - 1) + 1) = swF (swN ps (k - 1)) z) := Lib.hid (by show swF _ (ps.getD ((k - 1) + 1) 0) = _; rw [show (k - 1) + 1 = k by omega, HZ.out])
        have HB := Lib.hid hbw
        have z1 := txtB_size z
        clear hz d0 hzs hbw
        generalize swN ps (k - 1) = st at hzb HNX ⊢
        have l7 : (⟨#[115, 119, 105, 116, 99, 104, 32]⟩ : ByteArray).size = 7 := rfl
        have l1 : (⟨#[10]⟩ : ByteArray).size = 1 := rfl
        have q1 : ¬ 9223372036854775807 < st.size + 7 := by omega
        have q2 : ¬ 9223372036854775807 < st.size + 7 + (txtB z).size := by omega
        have q3 : ¬ 9223372036854775807 < st.size + 7 + (txtB z).size + 1 := by omega
        go_wp2_with fail
        refine (sNumText_full z _).mono ?_
        rintro e w2 ⟨rfl, hb2⟩
        have hs2 := hb2.size
        have y0 := (hb2.cell (p := ⟨w.heap.size, 0, none⟩) hy0)
        have y1 := (hb2.cell (p := ⟨w.heap.size, 1, none⟩) hy0).trans bx1
        have y2 := y0.trans bx0
        go_wp2
        go_roundw
        case rel => exact ⟨k + 1, by omega, by omega, by go_num, by rw [show k + 1 - 1 = k - 1 + 1 by omega, HNX.out]; rfl, bstep HB.out hb2, by omega, y2, y1⟩
        case measure => simp [intOf]; omega
      · skip
        have hk9 : k = n := by omega
        have HSW : Hid (swN ps (k - 1) = swN ps (ps.length - 1)) := Lib.hid (by rw [HP.out, hk9])
        have hzs := swN_size ps (k - 1)
        have hzb : (swN ps (k - 1)).size ≤ 1000 := by omega
        have HB := Lib.hid hbw
        subst hk9
        clear hzs hbw
        generalize swN ps (k - 1) = st at hzb HSW ⊢
        go_wp2
        go_loopw [3, 30] (fun a v wi => ∃ j : Nat, j ≤ m ∧ v = .int .i64 j ∧ a = .string (noN st ns j) ∧ Below w.heap.size w wi ∧ w.heap.size < wi.heap.size) (fun _ v _ => m - (intOf v).toNat)
        case atStart => exact ⟨0, Nat.zero_le _, rfl, rfl, HB.out, hy0⟩
        case round =>
        obtain ⟨j, hj, rfl, rfl, hbi, hyi⟩ := hrel
        obtain ⟨wi, rfl⟩ : ∃ wi : World, wi = wr := ⟨_, rfl⟩
        by_cases hlti : j < m
        · have hlti' : (j : Int) < m := by omega
          obtain ⟨g', q, rfl, hqx, c0, c1, c2, c3⟩ := HQ.out.q hlti
          have hg' := HL2.out g' rfl
          have C0 := (hbi.cell (p := ⟨g', j * 4, none⟩) hg').trans c0
          have C1 := (hbi.cell (p := ⟨g', j * 4 + 1, none⟩) hg').trans c1
          have C2 := (hbi.cell (p := ⟨g', j * 4 + 2, none⟩) hg').trans c2
          have C3 := (hbi.cell (p := ⟨g', j * 4 + 3, none⟩) hg').trans c3
          have hgr' : g' < wi.heap.size := Nat.lt_of_lt_of_le hg' hbi.size
          have hzs2 := noN_size st ns j
          have hzb2 : (noN st ns j).size ≤ 10000 := by omega
          have HNY : Hid (noN st ns (j + 1) = noF (noN st ns j) q) := Lib.hid (by show noF _ (ns.getD j ⟨0, 0, 0, 0⟩) = _; rw [getDq hqx])
          have HBI := Lib.hid hbi
          have z1 := txtB_size q.t
          have z2 := vtxtB_size q.a q.b q.c
          clear hqx c0 c1 c2 c3 hbi hzs2
          generalize noN st ns j = su at hzb2 HNY ⊢
          have l5 : (⟨#[110, 111, 100, 101, 32]⟩ : ByteArray).size = 5 := rfl
          have l1 : (⟨#[10]⟩ : ByteArray).size = 1 := rfl
          have l2 : (⟨#[32]⟩ : ByteArray).size = 1 := rfl
          have q1 : ¬ 9223372036854775807 < su.size + 5 := by omega
          have q2 : ¬ 9223372036854775807 < su.size + 5 + (txtB q.t).size := by omega
          have q3 : ¬ 9223372036854775807 < su.size + 5 + (txtB q.t).size + 1 := by omega
          have q4 : ¬ 9223372036854775807 < su.size + 5 + (txtB q.t).size + 1 + (vtxtB q.a q.b q.c).size := by omega
          have q5 : ¬ 9223372036854775807 < su.size + 5 + (txtB q.t).size + 1 + (vtxtB q.a q.b q.c).size + 1 := by omega
          go_wp2
          go_region_held3 (fun w' => w'.cell? ⟨wi.heap.size, 0, none⟩ = some (.int .i64 q.t) ∧ w'.cell? ⟨wi.heap.size, 1, none⟩ = some (.int .i64 q.a) ∧ w'.cell? ⟨wi.heap.size, 2, none⟩ = some (.int .i64 q.b) ∧ w'.cell? ⟨wi.heap.size, 3, none⟩ = some (.int .i64 q.c)) (simp [go_sem, *, World.cell?_alloc_some, World.cell?_setCell_far, Nat.lt_add_right, Nat.ne_of_gt]) (first | (go_at_call 142; refine (sNumText_full q.t _).mono ?_; rintro e w2 ⟨rfl, hb2⟩; have hs2 := hb2.size; (try simp at hs2); have y2 := fun o => hb2.cell (p := ⟨w.heap.size, o, none⟩) (by first | omega | (simp <;> omega)); have x2 := fun o => hb2.cell (p := ⟨wi.heap.size, o, none⟩) (by simp)) | (go_at_call 143; refine (svecText_any q.a q.b q.c _).mono ?_; rintro e w3 ⟨rfl, hb3⟩; have hs3 := hb3.size; (try simp at hs3); have y3 := fun o => hb3.cell (p := ⟨w.heap.size, o, none⟩) (by first | omega | (simp <;> omega)); have x3 := fun o => hb3.cell (p := ⟨wi.heap.size, o, none⟩) (by first | omega | (simp <;> omega))))
          go_wp2
          go_roundw
          case rel => exact ⟨j + 1, by omega, by go_num, by rw [HNY.out]; rfl, by have := HBI.out; repeat (first | exact Below.refl _ _ | assumption | (refine bstep ?_ (below_drewN _ _)) | exact bstep (by assumption) (by assumption) | (refine bstep ?_ (below_alloc _ _)) | (refine bstep ?_ (by assumption)) | (refine Below.setCell ?_ (by simp <;> omega) _) | refine Below.drew ?_), by omega⟩
          case measure => simp [intOf]; omega
        · have hj9 : j = m := by omega
          have HFIN : Hid (noN st ns j = topoTxt ps ns) := Lib.hid (by unfold topoTxt; rw [HSW.out, hj9, HQL.out])
          have HBI := Lib.hid hbi
          clear hbi
          go_wp2
          go_ret
          exact ⟨congrArg (fun s => Ending.returned (.string s)) (HFIN.out.trans HF.out.symm), HBI.out⟩

set_option maxHeartbeats 8000000 in
theorem topoText_any (A B : Option Addr) (n c m d : Nat) (ps : List Int) (ns : List Q) (w : World) (hn : n ≤ 1048576) (hm : m ≤ 1048576) (hr : Rd w A n 1 (ints ps)) (hq : Rd w B m 4 (flat ns)) (hl : ∀ g, A = some ⟨g, 0, none⟩ → g < w.heap.size) (hl2 : ∀ g, B = some ⟨g, 0, none⟩ → g < w.heap.size) (hnc : n ≤ c) (hc9 : c ≤ 9223372036854775807) :
    Calls Try.prog 78 #[.agg #[.slice A n c, .slice B m d]] w fun e w' => e = .returned (.string (topoTextV ps ns)) ∧ Below w.heap.size w w' := by
  have hpl := hr.ilen
  have hql : ns.length = m := by have := hq.1; rw [flat_len] at this; omega
  have hn9 : n ≤ 9223372036854775807 := by omega
  have hm9 : m ≤ 9223372036854775807 := by omega
  have HN := Lib.hid hn
  have HM := Lib.hid hm
  have HR := Lib.hid hr
  have HQ := Lib.hid hq
  have HL := Lib.hid hl
  have HL2 := Lib.hid hl2
  have HP := Lib.hid hpl
  have HQL := Lib.hid hql
  clear hn hm hr hq hl hl2 hpl hql
  cases ht : topoOkB ps ns
  · have HF : Hid (topoTextV ps ns = ⟨#[]⟩) := Lib.hid (by unfold topoTextV; rw [ht]; rfl)
    go_enter Try.func78, Try.ntmps78
    go_wp2_with fail
    refine (topoOk_any A B n c m d ps ns  _ HN.out HM.out (HR.out.below HL.out (by repeat (first | exact Below.refl _ _ | assumption | (refine bstep ?_ (below_drewN _ _)) | exact bstep (by assumption) (by assumption) | (refine bstep ?_ (below_alloc _ _)) | (refine bstep ?_ (by assumption)) | (refine Below.setCell ?_ (by simp <;> omega) _) | refine Below.drew ?_))) (HQ.out.below HL2.out (by repeat (first | exact Below.refl _ _ | assumption | (refine bstep ?_ (below_drewN _ _)) | exact bstep (by assumption) (by assumption) | (refine bstep ?_ (below_alloc _ _)) | (refine bstep ?_ (by assumption)) | (refine Below.setCell ?_ (by simp <;> omega) _) | refine Below.drew ?_))) (lt_below HL.out (by repeat (first | exact Below.refl _ _ | assumption | (refine bstep ?_ (below_drewN _ _)) | exact bstep (by assumption) (by assumption) | (refine bstep ?_ (below_alloc _ _)) | (refine bstep ?_ (by assumption)) | (refine Below.setCell ?_ (by simp <;> omega) _) | refine Below.drew ?_))) (lt_below HL2.out (by repeat (first | exact Below.refl _ _ | assumption | (refine bstep ?_ (below_drewN _ _)) | exact bstep (by assumption) (by assumption) | (refine bstep ?_ (below_alloc _ _)) | (refine bstep ?_ (by assumption)) | (refine Below.setCell ?_ (by simp <;> omega) _) | refine Below.drew ?_)))).mono ?_
    rintro e w1 ⟨rfl, hb1⟩
    rw [ht]
    go_wp2
    go_ret
    exact ⟨congrArg (fun s => Ending.returned (.string s)) HF.out.symm, (by repeat (first | exact Below.refl _ _ | assumption | (refine bstep ?_ (below_drewN _ _)) | exact bstep (by assumption) (by assumption) | (refine bstep ?_ (below_alloc _ _)) | (refine bstep ?_ (by assumption)) | (refine Below.setCell ?_ (by simp <;> omega) _) | refine Below.drew ?_))⟩
  · have HF : Hid (topoTextV ps ns = topoTxt ps ns) := Lib.hid (by unfold topoTextV; rw [ht]; rfl)
    obtain ⟨h1n, h24, _, hm24, _⟩ := topo_parts ht
    rw [HP.out] at h1n h24
    rw [HQL.out] at hm24
    obtain ⟨gA, zA, rfl, _, _⟩ := HR.out.int (show 0 < n by omega)
    by_cases hc1 : c = 1
    · subst hc1
      go_enter Try.func78, Try.ntmps78
      go_wp2_with fail
      refine (topoOk_any (some ⟨gA, 0, none⟩) B n 1 m d ps ns  _ HN.out HM.out (HR.out.below HL.out (by repeat (first | exact Below.refl _ _ | assumption | (refine bstep ?_ (below_drewN _ _)) | exact bstep (by assumption) (by assumption) | (refine bstep ?_ (below_alloc _ _)) | (refine bstep ?_ (by assumption)) | (refine Below.setCell ?_ (by simp <;> omega) _) | refine Below.drew ?_))) (HQ.out.below HL2.out (by repeat (first | exact Below.refl _ _ | assumption | (refine bstep ?_ (below_drewN _ _)) | exact bstep (by assumption) (by assumption) | (refine bstep ?_ (below_alloc _ _)) | (refine bstep ?_ (by assumption)) | (refine Below.setCell ?_ (by simp <;> omega) _) | refine Below.drew ?_))) (lt_below HL.out (by repeat (first | exact Below.refl _ _ | assumption | (refine bstep ?_ (below_drewN _ _)) | exact bstep (by assumption) (by assumption) | (refine bstep ?_ (below_alloc _ _)) | (refine bstep ?_ (by assumption)) | (refine Below.setCell ?_ (by simp <;> omega) _) | refine Below.drew ?_))) (lt_below HL2.out (by repeat (first | exact Below.refl _ _ | assumption | (refine bstep ?_ (below_drewN _ _)) | exact bstep (by assumption) (by assumption) | (refine bstep ?_ (below_alloc _ _)) | (refine bstep ?_ (by assumption)) | (refine Below.setCell ?_ (by simp <;> omega) _) | refine Below.drew ?_)))).mono ?_
      rintro e w1 ⟨rfl, hb1⟩
      rw [ht]
      have hs1 := hb1.size
      (try simp at hs1)
      have hk10 := fun o => hb1.cell (p := ⟨w.heap.size, o, none⟩) (by simp)
      have hy10 : w.heap.size < w1.heap.size := by omega
      clear ht
      go_wp2
      go_loopw [3, 15] (fun a i wr => ∃ k : Nat, k ≤ n - 1 ∧ i = .int .i64 k ∧ a = .string (swN ps k) ∧ Below w.heap.size w wr ∧ w.heap.size < wr.heap.size ∧ wr.cell? ⟨w.heap.size, 1, none⟩ = some (.slice B m d)) (fun _ i _ => n - (intOf i).toNat)
      case atStart => exact ⟨0, Nat.zero_le _, rfl, rfl, (by repeat (first | exact Below.refl _ _ | assumption | (refine bstep ?_ (below_drewN _ _)) | exact bstep (by assumption) (by assumption) | (refine bstep ?_ (below_alloc _ _)) | (refine bstep ?_ (by assumption)) | (refine Below.setCell ?_ (by simp <;> omega) _) | refine Below.drew ?_)), hy10, by simp [go_sem, *]⟩
      case round =>
        obtain ⟨k, hk, rfl, rfl, hbw, hy0, bx1⟩ := hrel
        by_cases hlt : k < n - 1
        · have hlt' : (k : Int) < (n : Int) - 1 := by omega
          exact absurd hlt (by omega)
        · skip
          have hk9 : k = n - 1 := by omega
          have HSW : Hid (swN ps k = swN ps (ps.length - 1)) := Lib.hid (by rw [HP.out, hk9])
          have hzs := swN_size ps k
          have hzb : (swN ps k).size ≤ 1000 := by omega
          have HB := Lib.hid hbw
          clear hk9
          clear hzs hbw
          generalize swN ps k = st at hzb HSW ⊢
          go_wp2
          go_loopw [3, 29] (fun a v wi => ∃ j : Nat, j ≤ m ∧ v = .int .i64 j ∧ a = .string (noN st ns j) ∧ Below w.heap.size w wi ∧ w.heap.size < wi.heap.size) (fun _ v _ => m - (intOf v).toNat)
          case atStart => exact ⟨0, Nat.zero_le _, rfl, rfl, HB.out, hy0⟩
          case round =>
          obtain ⟨j, hj, rfl, rfl, hbi, hyi⟩ := hrel
          obtain ⟨wi, rfl⟩ : ∃ wi : World, wi = wr := ⟨_, rfl⟩
          by_cases hlti : j < m
          · have hlti' : (j : Int) < m := by omega
            obtain ⟨g', q, rfl, hqx, c0, c1, c2, c3⟩ := HQ.out.q hlti
            have hg' := HL2.out g' rfl
            have C0 := (hbi.cell (p := ⟨g', j * 4, none⟩) hg').trans c0
            have C1 := (hbi.cell (p := ⟨g', j * 4 + 1, none⟩) hg').trans c1
            have C2 := (hbi.cell (p := ⟨g', j * 4 + 2, none⟩) hg').trans c2
            have C3 := (hbi.cell (p := ⟨g', j * 4 + 3, none⟩) hg').trans c3
            have hgr' : g' < wi.heap.size := Nat.lt_of_lt_of_le hg' hbi.size
            have hzs2 := noN_size st ns j
            have hzb2 : (noN st ns j).size ≤ 10000 := by omega
            have HNY : Hid (noN st ns (j + 1) = noF (noN st ns j) q) := Lib.hid (by show noF _ (ns.getD j ⟨0, 0, 0, 0⟩) = _; rw [getDq hqx])
            have HBI := Lib.hid hbi
            have z1 := txtB_size q.t
            have z2 := vtxtB_size q.a q.b q.c
            clear hqx c0 c1 c2 c3 hbi hzs2
            generalize noN st ns j = su at hzb2 HNY ⊢
            have l5 : (⟨#[110, 111, 100, 101, 32]⟩ : ByteArray).size = 5 := rfl
            have l1 : (⟨#[10]⟩ : ByteArray).size = 1 := rfl
            have l2 : (⟨#[32]⟩ : ByteArray).size = 1 := rfl
            have q1 : ¬ 9223372036854775807 < su.size + 5 := by omega
            have q2 : ¬ 9223372036854775807 < su.size + 5 + (txtB q.t).size := by omega
            have q3 : ¬ 9223372036854775807 < su.size + 5 + (txtB q.t).size + 1 := by omega
            have q4 : ¬ 9223372036854775807 < su.size + 5 + (txtB q.t).size + 1 + (vtxtB q.a q.b q.c).size := by omega
            have q5 : ¬ 9223372036854775807 < su.size + 5 + (txtB q.t).size + 1 + (vtxtB q.a q.b q.c).size + 1 := by omega
            go_wp2
            go_region_held3 (fun w' => w'.cell? ⟨wi.heap.size, 0, none⟩ = some (.int .i64 q.t) ∧ w'.cell? ⟨wi.heap.size, 1, none⟩ = some (.int .i64 q.a) ∧ w'.cell? ⟨wi.heap.size, 2, none⟩ = some (.int .i64 q.b) ∧ w'.cell? ⟨wi.heap.size, 3, none⟩ = some (.int .i64 q.c)) (simp [go_sem, *, World.cell?_alloc_some, World.cell?_setCell_far, Nat.lt_add_right, Nat.ne_of_gt]) (first | (go_at_call 120; refine (numText_full q.t _).mono ?_; rintro e w2 ⟨rfl, hb2⟩; have hs2 := hb2.size; (try simp at hs2); have y2 := fun o => hb2.cell (p := ⟨w.heap.size, o, none⟩) (by first | omega | (simp <;> omega)); have x2 := fun o => hb2.cell (p := ⟨wi.heap.size, o, none⟩) (by simp)) | (go_at_call 50; refine (vecText_any q.a q.b q.c _).mono ?_; rintro e w3 ⟨rfl, hb3⟩; have hs3 := hb3.size; (try simp at hs3); have y3 := fun o => hb3.cell (p := ⟨w.heap.size, o, none⟩) (by first | omega | (simp <;> omega)); have x3 := fun o => hb3.cell (p := ⟨wi.heap.size, o, none⟩) (by first | omega | (simp <;> omega))))
            go_wp2
            go_roundw
            case rel => exact ⟨j + 1, by omega, by go_num, by rw [HNY.out]; rfl, by have := HBI.out; repeat (first | exact Below.refl _ _ | assumption | (refine bstep ?_ (below_drewN _ _)) | exact bstep (by assumption) (by assumption) | (refine bstep ?_ (below_alloc _ _)) | (refine bstep ?_ (by assumption)) | (refine Below.setCell ?_ (by simp <;> omega) _) | refine Below.drew ?_), by omega⟩
            case measure => simp [intOf]; omega
          · have hj9 : j = m := by omega
            have HFIN : Hid (noN st ns j = topoTxt ps ns) := Lib.hid (by unfold topoTxt; rw [HSW.out, hj9, HQL.out])
            have HBI := Lib.hid hbi
            clear hbi
            go_wp2
            go_ret
            exact ⟨congrArg (fun s => Ending.returned (.string s)) (HFIN.out.trans HF.out.symm), HBI.out⟩
    · have hc2 : ¬ 1 = c := fun h => hc1 h.symm
      have hc3 : (1 : Int) ≤ (c : Int) := by omega
      go_enter Try.func78, Try.ntmps78
      go_wp2_with fail
      refine (topoOk_any (some ⟨gA, 0, none⟩) B n c m d ps ns  _ HN.out HM.out (HR.out.below HL.out (by repeat (first | exact Below.refl _ _ | assumption | (refine bstep ?_ (below_drewN _ _)) | exact bstep (by assumption) (by assumption) | (refine bstep ?_ (below_alloc _ _)) | (refine bstep ?_ (by assumption)) | (refine Below.setCell ?_ (by simp <;> omega) _) | refine Below.drew ?_))) (HQ.out.below HL2.out (by repeat (first | exact Below.refl _ _ | assumption | (refine bstep ?_ (below_drewN _ _)) | exact bstep (by assumption) (by assumption) | (refine bstep ?_ (below_alloc _ _)) | (refine bstep ?_ (by assumption)) | (refine Below.setCell ?_ (by simp <;> omega) _) | refine Below.drew ?_))) (lt_below HL.out (by repeat (first | exact Below.refl _ _ | assumption | (refine bstep ?_ (below_drewN _ _)) | exact bstep (by assumption) (by assumption) | (refine bstep ?_ (below_alloc _ _)) | (refine bstep ?_ (by assumption)) | (refine Below.setCell ?_ (by simp <;> omega) _) | refine Below.drew ?_))) (lt_below HL2.out (by repeat (first | exact Below.refl _ _ | assumption | (refine bstep ?_ (below_drewN _ _)) | exact bstep (by assumption) (by assumption) | (refine bstep ?_ (below_alloc _ _)) | (refine bstep ?_ (by assumption)) | (refine Below.setCell ?_ (by simp <;> omega) _) | refine Below.drew ?_)))).mono ?_
      rintro e w1 ⟨rfl, hb1⟩
      rw [ht]
      have hs1 := hb1.size
      (try simp at hs1)
      have hk10 := fun o => hb1.cell (p := ⟨w.heap.size, o, none⟩) (by simp)
      have hy10 : w.heap.size < w1.heap.size := by omega
      clear ht
      go_wp2
      go_loopw [3, 15] (fun a i wr => ∃ k : Nat, k ≤ n - 1 ∧ i = .int .i64 k ∧ a = .string (swN ps k) ∧ Below w.heap.size w wr ∧ w.heap.size < wr.heap.size ∧ wr.cell? ⟨w.heap.size, 1, none⟩ = some (.slice B m d)) (fun _ i _ => n - (intOf i).toNat)
      case atStart => exact ⟨0, Nat.zero_le _, rfl, rfl, (by repeat (first | exact Below.refl _ _ | assumption | (refine bstep ?_ (below_drewN _ _)) | exact bstep (by assumption) (by assumption) | (refine bstep ?_ (below_alloc _ _)) | (refine bstep ?_ (by assumption)) | (refine Below.setCell ?_ (by simp <;> omega) _) | refine Below.drew ?_)), hy10, by simp [go_sem, *]⟩
      case round =>
        obtain ⟨k, hk, rfl, rfl, hbw, hy0, bx1⟩ := hrel
        by_cases hlt : k < n - 1
        · have hlt' : (k : Int) < (n : Int) - 1 := by omega
          obtain ⟨g, z, hgA, hz, d0⟩ := HR.out.int (show k + 1 < n by omega)
          obtain rfl : gA = g := by simpa using hgA
          have hg := HL.out gA rfl
          have D0 : wr.cell? ⟨gA, 1 + k, none⟩ = some (.int .i64 z) := by rw [show 1 + k = k + 1 by omega]; exact (hbw.cell (p := ⟨gA, k + 1, none⟩) hg).trans d0
          have HZ := Lib.hid (getD_of hz)
          have hzs := swN_size ps k
          have hzb : (swN ps k).size ≤ 1000 := by omega
          have HNX : Hid (swN ps (k + 1) = swF (swN ps k) z) := Lib.hid (by show swF _ (ps.getD (k + 1) 0) = _; rw [show k + 1 = k + 1 by omega, HZ.out])
          have HB := Lib.hid hbw
          have z1 := txtB_size z
          clear hz d0 hzs hbw
          generalize swN ps k = st at hzb HNX ⊢
          have l7 : (⟨#[115, 119, 105, 116, 99, 104, 32]⟩ : ByteArray).size = 7 := rfl
          have l1 : (⟨#[10]⟩ : ByteArray).size = 1 := rfl
          have q1 : ¬ 9223372036854775807 < st.size + 7 := by omega
          have q2 : ¬ 9223372036854775807 < st.size + 7 + (txtB z).size := by omega
          have q3 : ¬ 9223372036854775807 < st.size + 7 + (txtB z).size + 1 := by omega
          go_wp2_with fail
          refine (numText_full z _).mono ?_
          rintro e w2 ⟨rfl, hb2⟩
          have hs2 := hb2.size
          have y0 := (hb2.cell (p := ⟨w.heap.size, 0, none⟩) hy0)
          have y1 := (hb2.cell (p := ⟨w.heap.size, 1, none⟩) hy0).trans bx1
          clear y0
          go_wp2
          go_roundw
          case rel => exact ⟨k + 1, by omega, by go_num, by rw [HNX.out]; rfl, bstep HB.out hb2, by omega, y1⟩
          case measure => simp [intOf]; omega
        · skip
          have hk9 : k = n - 1 := by omega
          have HSW : Hid (swN ps k = swN ps (ps.length - 1)) := Lib.hid (by rw [HP.out, hk9])
          have hzs := swN_size ps k
          have hzb : (swN ps k).size ≤ 1000 := by omega
          have HB := Lib.hid hbw
          clear hk9
          clear hzs hbw
          generalize swN ps k = st at hzb HSW ⊢
          go_wp2
          go_loopw [3, 29] (fun a v wi => ∃ j : Nat, j ≤ m ∧ v = .int .i64 j ∧ a = .string (noN st ns j) ∧ Below w.heap.size w wi ∧ w.heap.size < wi.heap.size) (fun _ v _ => m - (intOf v).toNat)
          case atStart => exact ⟨0, Nat.zero_le _, rfl, rfl, HB.out, hy0⟩
          case round =>
          obtain ⟨j, hj, rfl, rfl, hbi, hyi⟩ := hrel
          obtain ⟨wi, rfl⟩ : ∃ wi : World, wi = wr := ⟨_, rfl⟩
          by_cases hlti : j < m
          · have hlti' : (j : Int) < m := by omega
            obtain ⟨g', q, rfl, hqx, c0, c1, c2, c3⟩ := HQ.out.q hlti
            have hg' := HL2.out g' rfl
            have C0 := (hbi.cell (p := ⟨g', j * 4, none⟩) hg').trans c0
            have C1 := (hbi.cell (p := ⟨g', j * 4 + 1, none⟩) hg').trans c1
            have C2 := (hbi.cell (p := ⟨g', j * 4 + 2, none⟩) hg').trans c2
            have C3 := (hbi.cell (p := ⟨g', j * 4 + 3, none⟩) hg').trans c3
            have hgr' : g' < wi.heap.size := Nat.lt_of_lt_of_le hg' hbi.size
            have hzs2 := noN_size st ns j
            have hzb2 : (noN st ns j).size ≤ 10000 := by omega
            have HNY : Hid (noN st ns (j + 1) = noF (noN st ns j) q) := Lib.hid (by show noF _ (ns.getD j ⟨0, 0, 0, 0⟩) = _; rw [getDq hqx])
            have HBI := Lib.hid hbi
            have z1 := txtB_size q.t
            have z2 := vtxtB_size q.a q.b q.c
            clear hqx c0 c1 c2 c3 hbi hzs2
            generalize noN st ns j = su at hzb2 HNY ⊢
            have l5 : (⟨#[110, 111, 100, 101, 32]⟩ : ByteArray).size = 5 := rfl
            have l1 : (⟨#[10]⟩ : ByteArray).size = 1 := rfl
            have l2 : (⟨#[32]⟩ : ByteArray).size = 1 := rfl
            have q1 : ¬ 9223372036854775807 < su.size + 5 := by omega
            have q2 : ¬ 9223372036854775807 < su.size + 5 + (txtB q.t).size := by omega
            have q3 : ¬ 9223372036854775807 < su.size + 5 + (txtB q.t).size + 1 := by omega
            have q4 : ¬ 9223372036854775807 < su.size + 5 + (txtB q.t).size + 1 + (vtxtB q.a q.b q.c).size := by omega
            have q5 : ¬ 9223372036854775807 < su.size + 5 + (txtB q.t).size + 1 + (vtxtB q.a q.b q.c).size + 1 := by omega
            go_wp2
            go_region_held3 (fun w' => w'.cell? ⟨wi.heap.size, 0, none⟩ = some (.int .i64 q.t) ∧ w'.cell? ⟨wi.heap.size, 1, none⟩ = some (.int .i64 q.a) ∧ w'.cell? ⟨wi.heap.size, 2, none⟩ = some (.int .i64 q.b) ∧ w'.cell? ⟨wi.heap.size, 3, none⟩ = some (.int .i64 q.c)) (simp [go_sem, *, World.cell?_alloc_some, World.cell?_setCell_far, Nat.lt_add_right, Nat.ne_of_gt]) (first | (go_at_call 120; refine (numText_full q.t _).mono ?_; rintro e w2 ⟨rfl, hb2⟩; have hs2 := hb2.size; (try simp at hs2); have y2 := fun o => hb2.cell (p := ⟨w.heap.size, o, none⟩) (by first | omega | (simp <;> omega)); have x2 := fun o => hb2.cell (p := ⟨wi.heap.size, o, none⟩) (by simp)) | (go_at_call 50; refine (vecText_any q.a q.b q.c _).mono ?_; rintro e w3 ⟨rfl, hb3⟩; have hs3 := hb3.size; (try simp at hs3); have y3 := fun o => hb3.cell (p := ⟨w.heap.size, o, none⟩) (by first | omega | (simp <;> omega)); have x3 := fun o => hb3.cell (p := ⟨wi.heap.size, o, none⟩) (by first | omega | (simp <;> omega))))
            go_wp2
            go_roundw
            case rel => exact ⟨j + 1, by omega, by go_num, by rw [HNY.out]; rfl, by have := HBI.out; repeat (first | exact Below.refl _ _ | assumption | (refine bstep ?_ (below_drewN _ _)) | exact bstep (by assumption) (by assumption) | (refine bstep ?_ (below_alloc _ _)) | (refine bstep ?_ (by assumption)) | (refine Below.setCell ?_ (by simp <;> omega) _) | refine Below.drew ?_), by omega⟩
            case measure => simp [intOf]; omega
          · have hj9 : j = m := by omega
            have HFIN : Hid (noN st ns j = topoTxt ps ns) := Lib.hid (by unfold topoTxt; rw [HSW.out, hj9, HQL.out])
            have HBI := Lib.hid hbi
            clear hbi
            go_wp2
            go_ret
            exact ⟨congrArg (fun s => Ending.returned (.string s)) (HFIN.out.trans HF.out.symm), HBI.out⟩
end Go.Proofs.Ytjnfdcojccgfoaa
