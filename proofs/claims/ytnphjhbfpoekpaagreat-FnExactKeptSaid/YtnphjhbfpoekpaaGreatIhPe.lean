/-
  Rows of what is held that came in, opened.
-/
import Derived.Test.YtnphjhbfpoekpaaGreatIbPe
import Derived.Test.YtnphjhbfpoekpaaGreatA17Pe
import Derived.Test.YtnphjhbfpoekpaaGreatA0Pe
namespace Go.Proofs.YtnphjhbfpoekpaaGreat
set_option linter.unusedSimpArgs false
set_option linter.unusedVariables false
set_option linter.unnecessarySimpa false
open Go.ChangeShapes Go.WideShapes Go.ChangeAt Go.RowKit Go.Deep
instance : Inhabited Hd := ⟨⟨0, 0, []⟩⟩
section
variable {H : Type} {enc : TypeId × Value → H} {w : World} {base : Nat} {spare : Nat → Bool} {held : Bool}
theorem trod_ints2 {fuel : Nat} {t : TypeId} {cs : List Value} {x : DataW H × List MemPlace} {k : Nat} (hi : intsOnly Tryz.prog k t = true) (h : DataW.trod enc Tryz.prog w base spare held fuel t cs = some x) : ∀ v ∈ cs, ∃ z : Int, v = .int .i64 z := trod_ints k t fuel cs x hi h
theorem vlen3 {l : List Value} (h : l.length = 3) : ∃ a b c, l = [a, b, c] := by
  match l, h with
  | [a, b, c], _ => exact ⟨a, b, c, rfl⟩
theorem trod_held {fuel : Nat} {cs : List Value} {x : DataW H × List MemPlace} (h : DataW.trod enc Tryz.prog w base spare held fuel 117 cs = some x) :
    ∃ (p : Hd) (A : Option Addr) (c : Nat), cs = [.int .i64 p.id, .int .i64 p.at_, .slice A p.nd.length c] ∧ p.nd.length ≤ maxLen ∧ RdI w A p.nd.length p.nd := by
  obtain ⟨ys, f', _, rfl, hl, hyl, hf⟩ := DataW.trod_struct Tryz.underlying117 h
  have hm : cs.length = 3 := hl.trans (by kernel_rfl)
  obtain ⟨u0, u1, u2, rfl⟩ := vlen3 hm
  have ei : Tryz.prog.cellsOf 23 = 1 := by kernel_rfl
  have ej : Tryz.prog.cellsOf 3 = 1 := by kernel_rfl
  have hy2 : ys.length = 3 := by rw [hyl]; rfl
  have h0 := hf 0 _ rfl
  have h1 := hf 1 _ rfl
  have h2 := hf 2 _ rfl
  rw [List.getElem?_eq_getElem (by omega)] at h0 h1 h2
  have h0' : DataW.trod enc Tryz.prog w base spare held f' 3 [u0] = some ys[0] := by simpa [ej] using h0
  have h1' : DataW.trod enc Tryz.prog w base spare held f' 3 [u1] = some ys[1] := by simpa [ej] using h1
  have h2' : DataW.trod enc Tryz.prog w base spare held f' 23 [u2] = some ys[2] := by simpa [ei] using h2
  obtain ⟨z0, rfl⟩ := trod_ints2 (k := 4) (by kernel_rfl) h0' u0 (by simp)
  obtain ⟨z1, rfl⟩ := trod_ints2 (k := 4) (by kernel_rfl) h1' u1 (by simp)
  obtain ⟨A, n, c, z, rfl, hn, hc, hz⟩ := open_int_slice (C := 1) (k := 4) Tryz.underlying23 (by kernel_rfl) (by omega) (by kernel_rfl) h2'
  have hr := rdI_of hz
  have hlen := hr.1
  exact ⟨⟨z0, z1, isOf n z⟩, A, c, by rw [hlen], by rw [hlen]; exact hn, by rw [hlen]; exact hr⟩
theorem trod_helds {fuel : Nat} {cs : List Value} {x : DataW H × List MemPlace} (h : DataW.trod enc Tryz.prog w base spare held fuel 54 cs = some x) :
    ∃ A n c hs, cs = [.slice A n c] ∧ n ≤ maxLen ∧ RdHI w A n hs := by
  rcases open_slice Tryz.underlying54 h with ⟨rfl, _⟩ | ⟨a, len, cap, m, n', D, Pl, rfl, hb, hl, hm, hmm, hx, hel⟩
  · exact ⟨none, 0, 0, [], rfl, Nat.zero_le _, rfl, by simp, fun h => absurd h (by omega)⟩
  · have hlm : len ≤ m := by rw [hmm]; split <;> omega
    have hC : Tryz.prog.cellsOf 117 = 3 := by kernel_rfl
    have key : ∀ i, i < len → ∃ q : Hd × Option Addr × Nat, (w.cell? ((a.add (i * 3)).add 0) = some (.int .i64 q.1.id) ∧ w.cell? ((a.add (i * 3)).add 1) = some (.int .i64 q.1.at_) ∧ w.cell? ((a.add (i * 3)).add 2) = some (.slice q.2.1 q.1.nd.length q.2.2)) ∧ q.1.nd.length ≤ maxLen ∧ RdI w q.2.1 q.1.nd.length q.1.nd := by
      intro i hi
      obtain ⟨cs', hc, ht'⟩ := hel i (by omega)
      rw [hC] at hc
      obtain ⟨_, hcl, hat⟩ := World.cells?_some hc
      obtain ⟨p, A, c, rfl, hn, hr⟩ := trod_held ht'
      have g0 := hat 0 (by omega)
      have g1 := hat 1 (by omega)
      have g2 := hat 2 (by omega)
      exact ⟨(p, A, c), ⟨g0, g1, g2⟩, hn, hr⟩
    have key' : ∀ i, ∃ q : Hd × Option Addr × Nat, i < len → (w.cell? ((a.add (i * 3)).add 0) = some (.int .i64 q.1.id) ∧ w.cell? ((a.add (i * 3)).add 1) = some (.int .i64 q.1.at_) ∧ w.cell? ((a.add (i * 3)).add 2) = some (.slice q.2.1 q.1.nd.length q.2.2)) ∧ q.1.nd.length ≤ maxLen ∧ RdI w q.2.1 q.1.nd.length q.1.nd := by
      intro i
      by_cases hi : i < len
      · obtain ⟨q, hq⟩ := key i hi; exact ⟨q, fun _ => hq⟩
      · exact ⟨default, fun h => absurd h hi⟩
    obtain ⟨f, hf⟩ : ∃ f : Nat → Hd × Option Addr × Nat, ∀ i, i < len → (w.cell? ((a.add (i * 3)).add 0) = some (.int .i64 (f i).1.id) ∧ w.cell? ((a.add (i * 3)).add 1) = some (.int .i64 (f i).1.at_) ∧ w.cell? ((a.add (i * 3)).add 2) = some (.slice (f i).2.1 (f i).1.nd.length (f i).2.2)) ∧ (f i).1.nd.length ≤ maxLen ∧ RdI w (f i).2.1 (f i).1.nd.length (f i).1.nd := ⟨fun i => (key' i).choose, fun i => (key' i).choose_spec⟩
    refine ⟨some a, len, cap, (List.range len).map fun i => (f i).1, rfl, by omega, by simp, fun p hp => ?_, fun hn => ?_⟩
    · obtain ⟨i, hi, rfl⟩ := List.mem_map.1 hp
      exact (hf i (List.mem_range.1 hi)).2.1
    obtain ⟨⟨z0, _⟩, _⟩ := hf 0 hn
    simp only [Nat.zero_mul] at z0
    obtain ⟨b, off, rfl, hlt⟩ := addr_plain (a := a) (by simpa [Addr.add] using z0)
    refine ⟨b, off, rfl, hlt, fun k p hk => ?_⟩
    have hkl : k < len := by have := (List.getElem?_eq_some_iff.1 hk).1; simpa using this
    rw [List.getElem?_map, List.getElem?_range hkl] at hk
    simp only [Option.map_some, Option.some.injEq] at hk
    subst hk
    obtain ⟨⟨h0, h1, h2⟩, _, hr⟩ := hf k hkl
    have e : ∀ j, ((⟨b, off, none⟩ : Addr).add (k * 3)).add j = ⟨b, off + k * 3 + j, none⟩ := fun j => by rw [add_plain, add_plain]
    exact ⟨_, _, ⟨(congrArg w.cell? (e 0)).symm.trans h0, (congrArg w.cell? (e 1)).symm.trans h1, (congrArg w.cell? (e 2)).symm.trans h2⟩, hr⟩
set_option maxRecDepth 100000 in
theorem open_helds {r : Reach} {b0 : Nat} {v : Value} {d : DataW H} {p : List MemPlace} (hv : Value.okWide Tryz.prog w r b0 54 v) (h : DataW.Trod enc Tryz.prog w base spare held 54 v d p) :
    ∃ A n c hs, v = .slice A n c ∧ n ≤ maxLen ∧ RdHI w A n hs := by
  obtain ⟨fuel, x, h1⟩ := open_sl Tryz.underlying54 hv h
  obtain ⟨A, n, c, hs, e, h2, h3⟩ := trod_helds h1
  simp only [List.cons.injEq, and_true] at e
  exact ⟨A, n, c, hs, e, h2, h3⟩
end
end Go.Proofs.YtnphjhbfpoekpaaGreat
