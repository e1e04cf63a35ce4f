/-
  Texts of this proof, put together.
-/
import Derived.Test.YtdppjjdhidkjoaaA8
import Derived.Test.YtdppjjdhidkjoaaA0
import Derived.ChangeArms
import Derived.Test.YtdppjjdhidkjoaaA14
import Derived.OpenShut
/- A room that came in, opened. -/
namespace Go.Proofs.Ytdppjjdhidkjoaa
set_option linter.unusedSimpArgs false
set_option linter.unusedVariables false
set_option linter.unnecessarySimpa false
open Go.ChangeShapes Go.WideShapes Go.ChangeAt Go.RowKit Go.Deep
theorem vlen5 {l : List Value} (h : l.length = 5) : ∃ a b c d e, l = [a, b, c, d, e] := by
  match l, h with
  | [a, b, c, d, e], _ => exact ⟨a, b, c, d, e, rfl⟩
theorem addr_plain {w : World} {a : Addr} {v : Value} (h : w.cell? (a.add 0) = some v) : ∃ b off, a = ⟨b, off, none⟩ ∧ b < w.heap.size := by
  have h' : w.cell? a = some v := by simpa [Addr.add] using h
  have hsp : a.spot = none := by
    unfold World.cell? at h'
    split at h'
    · split at h'
      · cases h'
      · rename_i hs; simpa using hs
    · cases h'
  obtain ⟨b, off, spot⟩ := a
  simp only at hsp
  subst hsp
  refine ⟨b, off, rfl, ?_⟩
  rcases Nat.lt_or_ge b w.heap.size with h | h
  · exact h
  · exfalso
    unfold World.cell? at h'
    rw [Array.getElem?_eq_none h] at h'
    cases h'
theorem add_plain (b off i : Nat) : (⟨b, off, none⟩ : Addr).add i = ⟨b, off + i, none⟩ := by
  unfold Addr.add
  by_cases h : i = 0
  · rw [if_pos h]; subst h; rfl
  · rw [if_neg h]
section
variable {H : Type} {enc : TypeId × Value → H} {w : World} {base : Nat} {spare : Nat → Bool} {held : Bool}
theorem trod_topo {fuel : Nat} {cs : List Value} {x : DataW H × List MemPlace} (h : DataW.trod enc Try.prog w base spare held fuel 38 cs = some x) :
    ∃ A n c B m d ps ns, cs = [.slice A n c, .slice B m d] ∧ n ≤ maxLen ∧ m ≤ maxLen ∧ RdI w A n ps ∧ RdE w B m ns := by
  obtain ⟨ys, f', _, rfl, hl, hyl, hf⟩ := DataW.trod_struct Try.underlying38 h
  have hm : cs.length = 2 := hl.trans (by kernel_rfl)
  obtain ⟨u, t, rfl⟩ := vlen2 hm
  have ei : Try.prog.cellsOf 23 = 1 := by kernel_rfl
  have en : Try.prog.cellsOf 36 = 1 := by kernel_rfl
  have h0 := hf 0 _ rfl
  have h1 := hf 1 _ rfl
  have hy2 : ys.length = 2 := by rw [hyl]; rfl
  rw [List.getElem?_eq_getElem (by omega)] at h0 h1
  have h0' : DataW.trod enc Try.prog w base spare held f' 23 [u] = some ys[0] := by simpa [ei] using h0
  have h1' : DataW.trod enc Try.prog w base spare held f' 36 [t] = some ys[1] := by simpa [en] using h1
  obtain ⟨A, n, c, z, rfl, hn, hc, hz⟩ := open_int_slice (C := 1) (k := 4) Try.underlying23 (by kernel_rfl) (by omega) (by kernel_rfl) h0'
  obtain ⟨B, k, d, zz, rfl, hk, hd, hzz⟩ := open_int_slice (C := 4) (k := 4) Try.underlying36 (by kernel_rfl) (by omega) (by kernel_rfl) h1'
  exact ⟨A, n, c, B, k, d, _, _, rfl, hn, hk, rdI_of hz, rdE_of hzz⟩
theorem open_agg {P : Program} {r : Reach} {b0 : Nat} {t : TypeId} {fs : Array Field} {v : Value} {d : DataW H} {p : List MemPlace} (hs : P.underlying t = some (.struct fs))
    (hv : Value.okWide P w r b0 t v) (h : DataW.Trod enc P w base spare held t v d p) : ∃ (cs : List Value) (n : Nat) (x : _), v = .agg cs.toArray ∧ DataW.trod enc P w base spare held n t cs = some x := by
  obtain ⟨cs, rfl, hsz⟩ := okWide_struct hs hv
  obtain ⟨l⟩ := cs
  obtain ⟨fuel, hf⟩ := h
  exact ⟨l, fuel, _, rfl, hf⟩
end
end Go.Proofs.Ytdppjjdhidkjoaa

/- Bytes that came in, opened. -/
namespace Go.Proofs.Ytdppjjdhidkjoaa
set_option linter.unusedSimpArgs false
set_option linter.unusedVariables false
set_option linter.unnecessarySimpa false
open Go.ChangeShapes Go.WideShapes Go.ChangeAt Go.RowKit Go.Deep
section
variable {H : Type} {enc : TypeId × Value → H} {w : World} {base : Nat} {spare : Nat → Bool} {held : Bool}
theorem trod_bytes {fuel : Nat} {cs : List Value} {x : DataW H × List MemPlace} (h : DataW.trod enc Try.prog w base spare held fuel 22 cs = some x) :
    ∃ A n c, cs = [.slice A n c] ∧ n ≤ maxLen ∧ ByIn w A n := by
  rcases open_slice1 Try.underlying22 (by kernel_rfl) h with ⟨rfl, _⟩ | ⟨a, len, cap, m, f', V, D, Pl, rfl, hb, hl, hm, hmm, _, hx⟩
  · exact ⟨none, 0, 0, rfl, Nat.zero_le _, fun h => absurd h (by omega)⟩
  · have hlm : len ≤ m := by rw [hmm]; split <;> omega
    have key : ∀ i, i < len → ∃ z : Int, 0 ≤ z ∧ z ≤ 255 ∧ w.cell? (a.add i) = some (.int .u8 z) := by
      intro i hi
      obtain ⟨h1, h2⟩ := hx i (by omega)
      obtain ⟨z, hz, _, hwf⟩ := DataW.trod_int Try.underlying5 h2
      simp only [List.cons.injEq, and_true] at hz
      have hr := bounds_u8 hwf
      exact ⟨z, hr.1, hr.2, by rw [h1, hz]⟩
    refine ⟨some a, len, cap, rfl, by omega, fun hn => ?_⟩
    obtain ⟨z0, _, _, hz0⟩ := key 0 hn
    obtain ⟨b, off, rfl, hlt⟩ := addr_plain hz0
    refine ⟨b, off, rfl, hlt, fun k hk => ?_⟩
    obtain ⟨z, h0, h1, h2⟩ := key k hk
    exact ⟨z, h0, h1, (congrArg w.cell? (add_plain b off k)).symm.trans h2⟩
theorem open_sl {P : Program} {e : TypeId} {r : Reach} {b0 : Nat} {t : TypeId} {v : Value} {d : DataW H} {p : List MemPlace} (hs : P.underlying t = some (.slice e))
    (hv : Value.okWide P w r b0 t v) (h : DataW.Trod enc P w base spare held t v d p) : ∃ (n : Nat) (x : _), DataW.trod enc P w base spare held n t [v] = some x := by
  obtain ⟨a, len, cap, rfl⟩ := okWide_slice hs hv
  obtain ⟨fuel, h⟩ := h
  exact ⟨fuel, _, h⟩
set_option maxRecDepth 100000 in
theorem open_bytes {r : Reach} {b0 : Nat} {v : Value} {d : DataW H} {p : List MemPlace} (hv : Value.okWide Try.prog w r b0 22 v) (h : DataW.Trod enc Try.prog w base spare held 22 v d p) :
    ∃ A n c, v = .slice A n c ∧ n ≤ maxLen ∧ ByIn w A n := by
  obtain ⟨fuel, x, h1⟩ := open_sl Try.underlying22 hv h
  obtain ⟨A, n, c, e, h2⟩ := trod_bytes h1
  simp only [List.cons.injEq, and_true] at e
  exact ⟨A, n, c, e, h2⟩
end
end Go.Proofs.Ytdppjjdhidkjoaa
