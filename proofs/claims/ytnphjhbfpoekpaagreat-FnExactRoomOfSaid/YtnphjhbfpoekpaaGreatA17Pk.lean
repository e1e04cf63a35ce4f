import Derived.Test.YtnphjhbfpoekpaaGreatA8Pk
import Derived.Test.YtnphjhbfpoekpaaGreatA0Pk
import Derived.ChangeArms
import Derived.Test.YtnphjhbfpoekpaaGreatA14Pk
import Derived.OpenShut
namespace Go.Proofs.YtnphjhbfpoekpaaGreat
set_option linter.unusedSimpArgs false
set_option linter.unusedVariables false
set_option linter.unnecessarySimpa false
open Go.ChangeShapes Go.WideShapes Go.ChangeAt Go.RowKit Go.Deep
theorem addr_plain {w : World} {a : Addr} {v : Value} (h : w.cell? (a.add 0) = some v) : ∃ b off, a = ⟨b, off, none⟩ ∧ b < w.heap.size := by
 have h' : w.cell? a = some v := by simpa [Addr.add] using h
 have hsp : a.spot = none := by
  unfold World.cell? at h'
  split at h'
  ·split at h'
   ·cases h'
   ·rename_i hs; simpa using hs
  ·cases h'
 obtain ⟨b, off, spot⟩ := a
 simp only at hsp
 subst hsp
 refine ⟨b, off, rfl, ?_⟩
 rcases Nat.lt_or_ge b w.heap.size with h | h
 ·exact h
 ·exfalso
  unfold World.cell? at h'
  rw [Array.getElem?_eq_none h] at h'
  cases h'
theorem add_plain (b off i : Nat) : (⟨b, off, none⟩ : Addr).add i = ⟨b, off + i, none⟩ := by
 unfold Addr.add
 by_cases h : i = 0
 ·rw [if_pos h]; subst h; rfl
 ·rw [if_neg h]
section
variable {H : Type} {enc : TypeId × Value → H} {w : World} {base : Nat} {spare : Nat → Bool} {held : Bool}
theorem trod_topo {fuel : Nat} {cs : List Value} {x : DataW H × List MemPlace} (h : DataW.trod enc Tryz.prog w base spare held fuel 46 cs = some x) :
  ∃ A n c B m d ps ns, cs = [.slice A n c, .slice B m d] ∧ n ≤ maxLen ∧ m ≤ maxLen ∧ RdI w A n ps ∧ RdE w B m ns := by
 obtain ⟨ys, f', _, rfl, hl, hyl, hf⟩ := DataW.trod_struct Tryz.underlying46 h
 have hm : cs.length = 2 := hl.trans (by kernel_rfl)
 obtain ⟨u, t, rfl⟩ := vlen2 hm
 have ei : Tryz.prog.cellsOf 23 = 1 := by kernel_rfl
 have en : Tryz.prog.cellsOf 44 = 1 := by kernel_rfl
 have h0 := hf 0 _ rfl
 have h1 := hf 1 _ rfl
 have hy2 : ys.length = 2 := by rw [hyl]; rfl
 rw [zgh (by omega)] at h0 h1
 have h0' : DataW.trod enc Tryz.prog w base spare held f' 23 [u] = some ys[0] := by simpa [ei] using h0
 have h1' : DataW.trod enc Tryz.prog w base spare held f' 44 [t] = some ys[1] := by simpa [en] using h1
 obtain ⟨A, n, c, z, rfl, hn, hc, hz⟩ := open_int_slice (C := 1) (k := 4) Tryz.underlying23 (by kernel_rfl) (by omega) (by kernel_rfl) h0'
 obtain ⟨B, k, d, zz, rfl, hk, hd, hzz⟩ := open_int_slice (C := 4) (k := 4) Tryz.underlying44 (by kernel_rfl) (by omega) (by kernel_rfl) h1'
 exact ⟨A, n, c, B, k, d, _, _, rfl, hn, hk, rdI_of hz, rdE_of hzz⟩
theorem trod_bools {fuel : Nat} {cs : List Value} {x : DataW H × List MemPlace} (h : DataW.trod enc Tryz.prog w base spare held fuel 27 cs = some x) :
  ∃ A n c bs, cs = [.slice A n c] ∧ n ≤ maxLen ∧ RdB w A n bs := by
 rcases open_slice1 Tryz.underlying27 (by kernel_rfl) h with ⟨rfl, _⟩ | ⟨a, len, cap, m, f', V, D, Pl, rfl, hb, hl, hm, hmm, _, hx⟩
 ·exact ⟨none, 0, 0, [], rfl, Nat.zero_le _, rfl, fun h => absurd h (by omega)⟩
 ·have hlm : len ≤ m := by rw [hmm]; split <;> omega
  have key : ∀ i, i < len → ∃ z : Bool, w.cell? (a.add i) = some (.bool z) := by
   intro i hi
   obtain ⟨h1, h2⟩ := hx i (by omega)
   obtain ⟨z, hz, _⟩ := DataW.trod_bool Tryz.underlying4 h2
   simp only [List.cons.injEq, and_true] at hz
   exact ⟨z, by rw [h1, hz]⟩
  refine ⟨some a, len, cap, (List.range len).map fun i => if hh : i < len then (key i hh).choose else false, rfl, by omega, by simp, fun hn => ?_⟩
  obtain ⟨z0, hz0⟩ := key 0 hn
  obtain ⟨b, off, rfl, hlt⟩ := addr_plain hz0
  refine ⟨b, off, rfl, hlt, fun k z hk => ?_⟩
  have hkl : k < len := by have := (List.getElem?_eq_some_iff.1 hk).1; simpa using this
  rw [List.getElem?_map, List.getElem?_range hkl] at hk
  simp only [Option.map_some, Option.some.injEq, hkl, dite_true] at hk
  subst hk
  exact (congrArg w.cell? (add_plain b off k)).symm.trans (key k hkl).choose_spec
theorem open_agg {P : Program} {r : Reach} {b0 : Nat} {t : TypeId} {fs : Array Field} {v : Value} {d : DataW H} {p : List MemPlace} (hs : P.underlying t = some (.struct fs))
  (hv : Value.okWide P w r b0 t v) (h : DataW.Trod enc P w base spare held t v d p) : ∃ (cs : List Value) (n : Nat) (x : _), v = .agg cs.toArray ∧ DataW.trod enc P w base spare held n t cs = some x := by
 obtain ⟨cs, rfl, hsz⟩ := okWide_struct hs hv
 obtain ⟨l⟩ := cs
 obtain ⟨fuel, hf⟩ := h
 exact ⟨l, fuel, _, rfl, hf⟩
end
section
variable {H : Type} {enc : TypeId × Value → H} {w : World} {base : Nat} {spare : Nat → Bool} {held : Bool}
end
end Go.Proofs.YtnphjhbfpoekpaaGreat
