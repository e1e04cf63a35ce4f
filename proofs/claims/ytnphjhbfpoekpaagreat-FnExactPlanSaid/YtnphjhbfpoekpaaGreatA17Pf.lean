import Derived.Test.YtnphjhbfpoekpaaGreatA8Pf
import Derived.Test.YtnphjhbfpoekpaaGreatA0Pf
import Derived.ChangeArms
import Derived.Test.YtnphjhbfpoekpaaGreatA14Pf
import Derived.OpenShut
namespace Go.Proofs.YtnphjhbfpoekpaaGreat
set_option linter.unusedSimpArgs false
set_option linter.unusedVariables false
set_option linter.unnecessarySimpa false
open Go.ChangeShapes Go.WideShapes Go.ChangeAt Go.RowKit Go.Deep
theorem vlen5 {l : List Value} (h : l.length = 5) : ∃ a b c d e, l = [a, b, c, d, e] := by
 match l, h with
 | [a, b, c, d, e], _ => exact ⟨a, b, c, d, e, rfl⟩
theorem addr_plain {w : World} {a : Addr} {v : Value} (h : w.cell? (a.add 0) = some v) : ∃ b off, a = ⟨b, off, none⟩ ∧ b < w.heap.size := by
 have h' : w.cell? a = some v := by simpa [Addr.add] using h
 have hsp : a.spot = none := by
  unfold World.cell? at h'
  split at h'
  ·split at h'
   ·cases h'
   ·rename_i hs; simpa using hs
  ·cases h'
 obtain ⟨b, off, spot⟩ := a
 simp only at hsp
 subst hsp
 refine ⟨b, off, rfl, ?_⟩
 rcases Nat.lt_or_ge b w.heap.size with h | h
 ·exact h
 ·exfalso
  unfold World.cell? at h'
  rw [Array.getElem?_eq_none h] at h'
  cases h'
theorem add_plain (b off i : Nat) : (⟨b, off, none⟩ : Addr).add i = ⟨b, off + i, none⟩ := by
 unfold Addr.add
 by_cases h : i = 0
 ·rw [if_pos h]; subst h; rfl
 ·rw [if_neg h]
section
variable {H : Type} {enc : TypeId × Value → H} {w : World} {base : Nat} {spare : Nat → Bool} {held : Bool}
theorem trod_topo {fuel : Nat} {cs : List Value} {x : DataW H × List MemPlace} (h : DataW.trod enc Tryz.prog w base spare held fuel 46 cs = some x) :
  ∃ A n c B m d ps ns, cs = [.slice A n c, .slice B m d] ∧ n ≤ maxLen ∧ m ≤ maxLen ∧ RdI w A n ps ∧ RdE w B m ns := by
 obtain ⟨ys, f', _, rfl, hl, hyl, hf⟩ := DataW.trod_struct Tryz.underlying46 h
 have hm : cs.length = 2 := hl.trans (by kernel_rfl)
 obtain ⟨u, t, rfl⟩ := vlen2 hm
 have ei : Tryz.prog.cellsOf 23 = 1 := by kernel_rfl
 have en : Tryz.prog.cellsOf 44 = 1 := by kernel_rfl
 have h0 := hf 0 _ rfl
 have h1 := hf 1 _ rfl
 have hy2 : ys.length = 2 := by rw [hyl]; rfl
 rw [zgh (by omega)] at h0 h1
 have h0' : DataW.trod enc Tryz.prog w base spare held f' 23 [u] = some ys[0] := by simpa [ei] using h0
 have h1' : DataW.trod enc Tryz.prog w base spare held f' 44 [t] = some ys[1] := by simpa [en] using h1
 obtain ⟨A, n, c, z, rfl, hn, hc, hz⟩ := open_int_slice (C := 1) (k := 4) Tryz.underlying23 (by kernel_rfl) (by omega) (by kernel_rfl) h0'
 obtain ⟨B, k, d, zz, rfl, hk, hd, hzz⟩ := open_int_slice (C := 4) (k := 4) Tryz.underlying44 (by kernel_rfl) (by omega) (by kernel_rfl) h1'
 exact ⟨A, n, c, B, k, d, _, _, rfl, hn, hk, rdI_of hz, rdE_of hzz⟩
theorem trod_prof {fuel : Nat} {cs : List Value} {x : DataW H × List MemPlace} (h : DataW.trod enc Tryz.prog w base spare held fuel 50 cs = some x) :
  ∃ A n c ps, cs = [.slice A n c] ∧ n ≤ maxLen ∧ RdE w A n ps := by
 obtain ⟨ys, f', _, rfl, hl, hyl, hf⟩ := DataW.trod_struct Tryz.underlying50 h
 have hm : cs.length = 1 := hl.trans (by kernel_rfl)
 obtain ⟨u, rfl⟩ := vlen1 hm
 have ei : Tryz.prog.cellsOf 48 = 1 := by kernel_rfl
 have h0 := hf 0 _ rfl
 have hy2 : ys.length = 1 := by rw [hyl]; rfl
 rw [zgh (by omega)] at h0
 have h0' : DataW.trod enc Tryz.prog w base spare held f' 48 [u] = some ys[0] := by simpa [ei] using h0
 obtain ⟨A, n, c, z, rfl, hn, hc, hz⟩ := open_int_slice (C := 4) (k := 4) Tryz.underlying48 (by kernel_rfl) (by omega) (by kernel_rfl) h0'
 exact ⟨A, n, c, _, rfl, hn, rdE_of hz⟩
theorem trod_bools {fuel : Nat} {cs : List Value} {x : DataW H × List MemPlace} (h : DataW.trod enc Tryz.prog w base spare held fuel 27 cs = some x) :
  ∃ A n c bs, cs = [.slice A n c] ∧ n ≤ maxLen ∧ RdB w A n bs := by
 rcases open_slice1 Tryz.underlying27 (by kernel_rfl) h with ⟨rfl, _⟩ | ⟨a, len, cap, m, f', V, D, Pl, rfl, hb, hl, hm, hmm, _, hx⟩
 ·exact ⟨none, 0, 0, [], rfl, Nat.zero_le _, rfl, fun h => absurd h (by omega)⟩
 ·have hlm : len ≤ m := by rw [hmm]; split <;> omega
  have key : ∀ i, i < len → ∃ z : Bool, w.cell? (a.add i) = some (.bool z) := by
   intro i hi
   obtain ⟨h1, h2⟩ := hx i (by omega)
   obtain ⟨z, hz, _⟩ := DataW.trod_bool Tryz.underlying4 h2
   simp only [List.cons.injEq, and_true] at hz
   exact ⟨z, by rw [h1, hz]⟩
  refine ⟨some a, len, cap, (List.range len).map fun i => if hh : i < len then (key i hh).choose else false, rfl, by omega, by simp, fun hn => ?_⟩
  obtain ⟨z0, hz0⟩ := key 0 hn
  obtain ⟨b, off, rfl, hlt⟩ := addr_plain hz0
  refine ⟨b, off, rfl, hlt, fun k z hk => ?_⟩
  have hkl : k < len := by have := (List.getElem?_eq_some_iff.1 hk).1; simpa using this
  rw [List.getElem?_map, List.getElem?_range hkl] at hk
  simp only [Option.map_some, Option.some.injEq, hkl, dite_true] at hk
  subst hk
  exact (congrArg w.cell? (add_plain b off k)).symm.trans (key k hkl).choose_spec
theorem trod_profs {fuel : Nat} {cs : List Value} {x : DataW H × List MemPlace} (h : DataW.trod enc Tryz.prog w base spare held fuel 47 cs = some x) :
  ∃ A n c pss, cs = [.slice A n c] ∧ n ≤ maxLen ∧ RdPI w A n pss := by
 rcases open_slice1 Tryz.underlying47 (by kernel_rfl) h with ⟨rfl, _⟩ | ⟨a, len, cap, m, f', V, D, Pl, rfl, hb, hl, hm, hmm, _, hx⟩
 ·exact ⟨none, 0, 0, [], rfl, Nat.zero_le _, rfl, by simp, fun h => absurd h (by omega)⟩
 ·have hlm : len ≤ m := by rw [hmm]; split <;> omega
  have key : ∀ i, i < len → ∃ q : Option Addr × Nat × List Q, w.cell? (a.add i) = some (.slice q.1 q.2.2.length q.2.1) ∧ q.2.2.length ≤ maxLen ∧ RdE w q.1 q.2.2.length q.2.2 := by
   intro i hi
   obtain ⟨h1, h2⟩ := hx i (by omega)
   obtain ⟨A, n, c, ps, hz, hn, hr⟩ := trod_prof h2
   simp only [List.cons.injEq, and_true] at hz
   have e := hr.1
   subst e
   exact ⟨(A, c, ps), by rw [h1, hz], hn, hr⟩
  refine ⟨some a, len, cap, (List.range len).map fun i => if hh : i < len then (key i hh).choose.2.2 else [], rfl, by omega, by simp, fun ps hps => ?_, fun hn => ?_⟩
  ·obtain ⟨i, hi, rfl⟩ := List.mem_map.1 hps
   have hil := List.mem_range.1 hi
   simp only [hil, dite_true]
   exact (key i hil).choose_spec.2.1
  obtain ⟨z0, hz0, _⟩ := key 0 hn
  obtain ⟨b, off, rfl, hlt⟩ := addr_plain hz0
  refine ⟨b, off, rfl, hlt, fun k z hk => ?_⟩
  have hkl : k < len := by have := (List.getElem?_eq_some_iff.1 hk).1; simpa using this
  rw [List.getElem?_map, List.getElem?_range hkl] at hk
  simp only [Option.map_some, Option.some.injEq, hkl, dite_true] at hk
  subst hk
  obtain ⟨h1, _, h3⟩ := (key k hkl).choose_spec
  exact ⟨_, _, (congrArg w.cell? (add_plain b off k)).symm.trans h1, h3⟩
theorem trod_room {fuel : Nat} {cs : List Value} {x : DataW H × List MemPlace} (h : DataW.trod enc Tryz.prog w base spare held fuel 52 cs = some x) :
  ∃ (a : RA) (r : Rm), Value.agg cs.toArray = a.v ∧ RmMax a ∧ RoomIn w a r := by
 obtain ⟨ys, f', _, rfl, hl, hyl, hf⟩ := DataW.trod_struct Tryz.underlying52 h
 have hm : cs.length = 5 := hl.trans (by kernel_rfl)
 obtain ⟨u0, u1, u2, u3, u4, rfl⟩ := vlen5 hm
 have e0 : Tryz.prog.cellsOf 46 = 2 := by kernel_rfl
 have e1 : Tryz.prog.cellsOf 27 = 1 := by kernel_rfl
 have e2 : Tryz.prog.cellsOf 47 = 1 := by kernel_rfl
 have e3 : Tryz.prog.cellsOf 50 = 1 := by kernel_rfl
 have hy4 : ys.length = 4 := by rw [hyl]; rfl
 have h0 := hf 0 _ rfl
 have h1 := hf 1 _ rfl
 have h2 := hf 2 _ rfl
 have h3 := hf 3 _ rfl
 rw [zgh (by omega)] at h0 h1 h2 h3
 have h0' : DataW.trod enc Tryz.prog w base spare held f' 46 [u0, u1] = some ys[0] := by simpa [e0] using h0
 have h1' : DataW.trod enc Tryz.prog w base spare held f' 27 [u2] = some ys[1] := by simpa [e1] using h1
 have h2' : DataW.trod enc Tryz.prog w base spare held f' 47 [u3] = some ys[2] := by simpa [e2] using h2
 have h3' : DataW.trod enc Tryz.prog w base spare held f' 50 [u4] = some ys[3] := by simpa [e3] using h3
 obtain ⟨A, n, c, B, m, d, ps, ns, hA, hn, hmm, hrA, hrB⟩ := trod_topo h0'
 obtain ⟨U, nu, cu, bs, hU, hnu, hrU⟩ := trod_bools h1'
 obtain ⟨R, np, cp, pss, hR, hnp, hrR⟩ := trod_profs h2'
 obtain ⟨L, nl, cl, ls, hL, hnl, hrL⟩ := trod_prof h3'
 simp only [List.cons.injEq, and_true] at hA hU hR hL
 obtain ⟨rfl, rfl⟩ := hA
 subst hU hR hL
 exact ⟨⟨A, B, U, R, L, n, m, nu, np, nl, c, d, cu, cp, cl⟩, ⟨ps, ns, bs, pss, ls⟩, rfl, ⟨hn, hmm, hnu, hnp, hnl⟩, ⟨hrA, hrB, hrU, hrR, hrL⟩⟩
theorem open_agg {P : Program} {r : Reach} {b0 : Nat} {t : TypeId} {fs : Array Field} {v : Value} {d : DataW H} {p : List MemPlace} (hs : P.underlying t = some (.struct fs))
  (hv : Value.okWide P w r b0 t v) (h : DataW.Trod enc P w base spare held t v d p) : ∃ (cs : List Value) (n : Nat) (x : _), v = .agg cs.toArray ∧ DataW.trod enc P w base spare held n t cs = some x := by
 obtain ⟨cs, rfl, hsz⟩ := okWide_struct hs hv
 obtain ⟨l⟩ := cs
 obtain ⟨fuel, hf⟩ := h
 exact ⟨l, fuel, _, rfl, hf⟩
set_option maxRecDepth 100000 in
theorem open_room {r : Reach} {b0 : Nat} {v : Value} {d : DataW H} {p : List MemPlace} (hv : Value.okWide Tryz.prog w r b0 52 v) (h : DataW.Trod enc Tryz.prog w base spare held 52 v d p) :
  ∃ (a : RA) (r : Rm), v = a.v ∧ RmMax a ∧ RoomIn w a r := by
 obtain ⟨cs, fuel, x, hcs, h1⟩ := open_agg (fs := _) Tryz.underlying52 hv h
 subst hcs
 exact trod_room h1
end
section
variable {H : Type} {enc : TypeId × Value → H} {w : World} {base : Nat} {spare : Nat → Bool} {held : Bool}
end
end Go.Proofs.YtnphjhbfpoekpaaGreat
