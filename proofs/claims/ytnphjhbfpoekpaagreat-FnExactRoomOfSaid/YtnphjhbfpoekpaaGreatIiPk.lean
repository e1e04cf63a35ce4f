import Derived.Test.YtnphjhbfpoekpaaGreatIhPk
import Derived.Test.YtnphjhbfpoekpaaGreatWdPk
namespace Go.Proofs.YtnphjhbfpoekpaaGreat
set_option linter.unusedSimpArgs false
set_option linter.unusedVariables false
set_option linter.unnecessarySimpa false
open Go.ChangeShapes Go.WideShapes Go.ChangeAt Go.RowKit Go.Deep
instance : Inhabited Rn := ⟨⟨⟨0, 0, 0, 0, 0, 0, 0, 0, 0, 0, 0⟩, 0, []⟩⟩
def ensOf (n : Nat) (z : Nat → Nat → Int) : List En := (List.range n).map fun i => ⟨z i 0, z i 1, z i 2⟩
theorem rdEn_of {w : World} {A : Option Addr} {n : Nat} {z : Nat → Nat → Int} (h : 0 < n → ∃ b off, A = some ⟨b, off, none⟩ ∧ b < w.heap.size ∧
   ∀ i j, i < n → j < 3 → w.cell? ⟨b, off + i * 3 + j, none⟩ = some (.int .i64 (z i j))) : RdEn w A n (ensOf n z) := by
 refine ⟨by simp [ensOf], fun hn => ?_⟩
 obtain ⟨b, off, rfl, hb, hc⟩ := h hn
 refine ⟨b, off, rfl, hb, fun k q hq i u hu => ?_⟩
 have hk : k < n := by
  have := (List.getElem?_eq_some_iff.1 hq).1
  simpa [ensOf] using this
 unfold ensOf at hq
 rw [List.getElem?_map, List.getElem?_range hk] at hq
 simp only [Option.map_some, Option.some.injEq] at hq
 subst hq
 have hi : i < 3 := by
  have := (List.getElem?_eq_some_iff.1 hu).1
  simpa [En.cells] using this
 rw [hc k i hk hi, ← hu]
 match i, hi with
 | 0, _ => rfl
 | 1, _ => rfl
 | 2, _ => rfl
section
variable {H : Type} {enc : TypeId × Value → H} {w : World} {base : Nat} {spare : Nat → Bool} {held : Bool}
theorem vlen8 {l : List Value} (h : l.length = 11) : ∃ a0 a1 a2 a3 a4 a5 a6 a7 a8 a9 a10, l = [a0, a1, a2, a3, a4, a5, a6, a7, a8, a9, a10] := by
 match l, h with
 | [a0, a1, a2, a3, a4, a5, a6, a7, a8, a9, a10], _ => exact ⟨a0, a1, a2, a3, a4, a5, a6, a7, a8, a9, a10, rfl⟩
theorem vlen13 {l : List Value} (h : l.length = 13) : ∃ a0 a1 a2 a3 a4 a5 a6 a7 a8 a9 a10 a11 a12, l = [a0, a1, a2, a3, a4, a5, a6, a7, a8, a9, a10, a11, a12] := by
 match l, h with
 | [a0, a1, a2, a3, a4, a5, a6, a7, a8, a9, a10, a11, a12], _ => exact ⟨a0, a1, a2, a3, a4, a5, a6, a7, a8, a9, a10, a11, a12, rfl⟩
theorem trod_run {fuel : Nat} {cs : List Value} {x : DataW H × List MemPlace} (h : DataW.trod enc Tryz.prog w base spare held fuel 194 cs = some x) :
  ∃ (p : Rn) (A : Option Addr) (c : Nat), cs = [.int .i64 p.j.id, .int .i64 p.j.pr, .int .i64 p.j.nn, .int .i64 p.j.na, .int .i64 p.j.nb, .int .i64 p.j.nc, .int .i64 p.j.la, .int .i64 p.j.lb, .int .i64 p.j.lc, .int .i64 p.j.wl, .int .i64 p.j.lv, .int .i64 p.at_, .slice A p.nd.length c] ∧ p.nd.length ≤ maxLen ∧ RdI w A p.nd.length p.nd := by
 obtain ⟨ys, f', _, rfl, hl, hyl, hf⟩ := DataW.trod_struct Tryz.underlying194 h
 have hm : cs.length = 13 := hl.trans (by kernel_rfl)
 obtain ⟨u0, u1, u2, u3, u4, u5, u6, u7, u8, u9, u10, u11, u12, rfl⟩ := vlen13 hm
 have ei : Tryz.prog.cellsOf 23 = 1 := by kernel_rfl
 have ej : Tryz.prog.cellsOf 3 = 1 := by kernel_rfl
 have eJ : Tryz.prog.cellsOf 125 = 11 := by kernel_rfl
 have hy2 : ys.length = 3 := by rw [hyl]; rfl
 have h0 := hf 0 _ rfl
 have h1 := hf 1 _ rfl
 have h2 := hf 2 _ rfl
 rw [zgh (by omega)] at h0 h1 h2
 have h0' : DataW.trod enc Tryz.prog w base spare held f' 125 [u0, u1, u2, u3, u4, u5, u6, u7, u8, u9, u10] = some ys[0] := by simpa [eJ] using h0
 have h1' : DataW.trod enc Tryz.prog w base spare held f' 3 [u11] = some ys[1] := by simpa [ej] using h1
 have h2' : DataW.trod enc Tryz.prog w base spare held f' 23 [u12] = some ys[2] := by simpa [ei] using h2
 obtain ⟨z0, rfl⟩ := trod_ints2 (k := 4) (by kernel_rfl) h0' u0 (by simp)
 obtain ⟨z1, rfl⟩ := trod_ints2 (k := 4) (by kernel_rfl) h0' u1 (by simp)
 obtain ⟨z2, rfl⟩ := trod_ints2 (k := 4) (by kernel_rfl) h0' u2 (by simp)
 obtain ⟨z3, rfl⟩ := trod_ints2 (k := 4) (by kernel_rfl) h0' u3 (by simp)
 obtain ⟨z4, rfl⟩ := trod_ints2 (k := 4) (by kernel_rfl) h0' u4 (by simp)
 obtain ⟨z5, rfl⟩ := trod_ints2 (k := 4) (by kernel_rfl) h0' u5 (by simp)
 obtain ⟨z6, rfl⟩ := trod_ints2 (k := 4) (by kernel_rfl) h0' u6 (by simp)
 obtain ⟨z7, rfl⟩ := trod_ints2 (k := 4) (by kernel_rfl) h0' u7 (by simp)
 obtain ⟨z8, rfl⟩ := trod_ints2 (k := 4) (by kernel_rfl) h0' u8 (by simp)
 obtain ⟨z9, rfl⟩ := trod_ints2 (k := 4) (by kernel_rfl) h0' u9 (by simp)
 obtain ⟨z10, rfl⟩ := trod_ints2 (k := 4) (by kernel_rfl) h0' u10 (by simp)
 obtain ⟨z11, rfl⟩ := trod_ints2 (k := 4) (by kernel_rfl) h1' u11 (by simp)
 obtain ⟨A, n, c, z, rfl, hn, hc, hz⟩ := open_int_slice (C := 1) (k := 4) Tryz.underlying23 (by kernel_rfl) (by omega) (by kernel_rfl) h2'
 have hr := rdI_of hz
 have hlen := hr.1
 exact ⟨⟨⟨z0, z1, z2, z3, z4, z5, z6, z7, z8, z9, z10⟩, z11, isOf n z⟩, A, c, by rw [hlen], by rw [hlen]; exact hn, by rw [hlen]; exact hr⟩
theorem trod_runs {fuel : Nat} {cs : List Value} {x : DataW H × List MemPlace} (h : DataW.trod enc Tryz.prog w base spare held fuel 67 cs = some x) :
  ∃ A n c hs, cs = [.slice A n c] ∧ n ≤ maxLen ∧ RdNI w A n hs := by
 rcases open_slice Tryz.underlying67 h with ⟨rfl, _⟩ | ⟨a, len, cap, m, n', D, Pl, rfl, hb, hl, hm, hmm, hx, hel⟩
 ·exact ⟨none, 0, 0, [], rfl, Nat.zero_le _, rfl, by simp, fun h => absurd h (by omega)⟩
 ·have hlm : len ≤ m := by rw [hmm]; split <;> omega
  have hC : Tryz.prog.cellsOf 194 = 13 := by kernel_rfl
  have key : ∀ i, i < len → ∃ q : Rn × Option Addr × Nat, (w.cell? ((a.add (i * 13)).add 0) = some (.int .i64 q.1.j.id) ∧ w.cell? ((a.add (i * 13)).add 1) = some (.int .i64 q.1.j.pr) ∧ w.cell? ((a.add (i * 13)).add 2) = some (.int .i64 q.1.j.nn) ∧ w.cell? ((a.add (i * 13)).add 3) = some (.int .i64 q.1.j.na) ∧ w.cell? ((a.add (i * 13)).add 4) = some (.int .i64 q.1.j.nb) ∧ w.cell? ((a.add (i * 13)).add 5) = some (.int .i64 q.1.j.nc) ∧ w.cell? ((a.add (i * 13)).add 6) = some (.int .i64 q.1.j.la) ∧ w.cell? ((a.add (i * 13)).add 7) = some (.int .i64 q.1.j.lb) ∧ w.cell? ((a.add (i * 13)).add 8) = some (.int .i64 q.1.j.lc) ∧ w.cell? ((a.add (i * 13)).add 9) = some (.int .i64 q.1.j.wl) ∧ w.cell? ((a.add (i * 13)).add 10) = some (.int .i64 q.1.j.lv) ∧ w.cell? ((a.add (i * 13)).add 11) = some (.int .i64 q.1.at_) ∧ w.cell? ((a.add (i * 13)).add 12) = some (.slice q.2.1 q.1.nd.length q.2.2)) ∧ q.1.nd.length ≤ maxLen ∧ RdI w q.2.1 q.1.nd.length q.1.nd := by
   intro i hi
   obtain ⟨cs', hc, ht'⟩ := hel i (by omega)
   rw [hC] at hc
   obtain ⟨_, hcl, hat⟩ := World.cells?_some hc
   obtain ⟨p, A, c, rfl, hn, hr⟩ := trod_run ht'
   have g0 := hat 0 (by omega)
   have g1 := hat 1 (by omega)
   have g2 := hat 2 (by omega)
   have g3 := hat 3 (by omega)
   have g4 := hat 4 (by omega)
   have g5 := hat 5 (by omega)
   have g6 := hat 6 (by omega)
   have g7 := hat 7 (by omega)
   have g8 := hat 8 (by omega)
   have g9 := hat 9 (by omega)
   have g10 := hat 10 (by omega)
   have g11 := hat 11 (by omega)
   have g12 := hat 12 (by omega)
   exact ⟨(p, A, c), ⟨g0, g1, g2, g3, g4, g5, g6, g7, g8, g9, g10, g11, g12⟩, hn, hr⟩
  have key' : ∀ i, ∃ q : Rn × Option Addr × Nat, i < len → (w.cell? ((a.add (i * 13)).add 0) = some (.int .i64 q.1.j.id) ∧ w.cell? ((a.add (i * 13)).add 1) = some (.int .i64 q.1.j.pr) ∧ w.cell? ((a.add (i * 13)).add 2) = some (.int .i64 q.1.j.nn) ∧ w.cell? ((a.add (i * 13)).add 3) = some (.int .i64 q.1.j.na) ∧ w.cell? ((a.add (i * 13)).add 4) = some (.int .i64 q.1.j.nb) ∧ w.cell? ((a.add (i * 13)).add 5) = some (.int .i64 q.1.j.nc) ∧ w.cell? ((a.add (i * 13)).add 6) = some (.int .i64 q.1.j.la) ∧ w.cell? ((a.add (i * 13)).add 7) = some (.int .i64 q.1.j.lb) ∧ w.cell? ((a.add (i * 13)).add 8) = some (.int .i64 q.1.j.lc) ∧ w.cell? ((a.add (i * 13)).add 9) = some (.int .i64 q.1.j.wl) ∧ w.cell? ((a.add (i * 13)).add 10) = some (.int .i64 q.1.j.lv) ∧ w.cell? ((a.add (i * 13)).add 11) = some (.int .i64 q.1.at_) ∧ w.cell? ((a.add (i * 13)).add 12) = some (.slice q.2.1 q.1.nd.length q.2.2)) ∧ q.1.nd.length ≤ maxLen ∧ RdI w q.2.1 q.1.nd.length q.1.nd := by
   intro i
   by_cases hi : i < len
   ·obtain ⟨q, hq⟩ := key i hi; exact ⟨q, fun _ => hq⟩
   ·exact ⟨default, fun h => absurd h hi⟩
  obtain ⟨f, hf⟩ : ∃ f : Nat → Rn × Option Addr × Nat, ∀ i, i < len → (w.cell? ((a.add (i * 13)).add 0) = some (.int .i64 (f i).1.j.id) ∧ w.cell? ((a.add (i * 13)).add 1) = some (.int .i64 (f i).1.j.pr) ∧ w.cell? ((a.add (i * 13)).add 2) = some (.int .i64 (f i).1.j.nn) ∧ w.cell? ((a.add (i * 13)).add 3) = some (.int .i64 (f i).1.j.na) ∧ w.cell? ((a.add (i * 13)).add 4) = some (.int .i64 (f i).1.j.nb) ∧ w.cell? ((a.add (i * 13)).add 5) = some (.int .i64 (f i).1.j.nc) ∧ w.cell? ((a.add (i * 13)).add 6) = some (.int .i64 (f i).1.j.la) ∧ w.cell? ((a.add (i * 13)).add 7) = some (.int .i64 (f i).1.j.lb) ∧ w.cell? ((a.add (i * 13)).add 8) = some (.int .i64 (f i).1.j.lc) ∧ w.cell? ((a.add (i * 13)).add 9) = some (.int .i64 (f i).1.j.wl) ∧ w.cell? ((a.add (i * 13)).add 10) = some (.int .i64 (f i).1.j.lv) ∧ w.cell? ((a.add (i * 13)).add 11) = some (.int .i64 (f i).1.at_) ∧ w.cell? ((a.add (i * 13)).add 12) = some (.slice (f i).2.1 (f i).1.nd.length (f i).2.2)) ∧ (f i).1.nd.length ≤ maxLen ∧ RdI w (f i).2.1 (f i).1.nd.length (f i).1.nd := ⟨fun i => (key' i).choose, fun i => (key' i).choose_spec⟩
  refine ⟨some a, len, cap, (List.range len).map fun i => (f i).1, rfl, by omega, by simp, fun p hp => ?_, fun hn => ?_⟩
  ·obtain ⟨i, hi, rfl⟩ := List.mem_map.1 hp
   exact (hf i (List.mem_range.1 hi)).2.1
  obtain ⟨⟨z0, _⟩, _⟩ := hf 0 hn
  simp only [Nat.zero_mul] at z0
  obtain ⟨b, off, rfl, hlt⟩ := addr_plain (a := a) (by simpa [Addr.add] using z0)
  refine ⟨b, off, rfl, hlt, fun k p hk => ?_⟩
  have hkl : k < len := by have := (List.getElem?_eq_some_iff.1 hk).1; simpa using this
  rw [List.getElem?_map, List.getElem?_range hkl] at hk
  simp only [Option.map_some, Option.some.injEq] at hk
  subst hk
  obtain ⟨⟨h0, h1, h2, h3, h4, h5, h6, h7, h8, h9, h10, h11, h12⟩, _, hr⟩ := hf k hkl
  have e : ∀ j, ((⟨b, off, none⟩ : Addr).add (k * 13)).add j = ⟨b, off + k * 13 + j, none⟩ := fun j => by rw [add_plain, add_plain]
  exact ⟨_, _, ⟨(congrArg w.cell? (e 0)).symm.trans h0, (congrArg w.cell? (e 1)).symm.trans h1, (congrArg w.cell? (e 2)).symm.trans h2, (congrArg w.cell? (e 3)).symm.trans h3, (congrArg w.cell? (e 4)).symm.trans h4, (congrArg w.cell? (e 5)).symm.trans h5, (congrArg w.cell? (e 6)).symm.trans h6, (congrArg w.cell? (e 7)).symm.trans h7, (congrArg w.cell? (e 8)).symm.trans h8, (congrArg w.cell? (e 9)).symm.trans h9, (congrArg w.cell? (e 10)).symm.trans h10, (congrArg w.cell? (e 11)).symm.trans h11, (congrArg w.cell? (e 12)).symm.trans h12⟩, hr⟩
set_option maxRecDepth 100000 in
theorem trod_state {fuel : Nat} {cs : List Value} {x : DataW H × List MemPlace} (h : DataW.trod enc Tryz.prog w base spare held fuel 70 cs = some x) :
  ∃ (a : SA) (s : St), Value.agg cs.toArray = a.v s ∧ StMax a ∧ StIn w a s := by
 obtain ⟨ys, f', _, rfl, hl, hyl, hf⟩ := DataW.trod_struct Tryz.underlying70 h
 have hm : cs.length = 11 := hl.trans (by kernel_rfl)
 obtain ⟨u0, u1, u2, u3, u4, u5, u6, u7, u8, u9, u10, rfl⟩ := vlen8 hm
 have hy4 : ys.length = 8 := by rw [hyl]; rfl
 have e0 : Tryz.prog.cellsOf 46 = 2 := by kernel_rfl
 have e1 : Tryz.prog.cellsOf 27 = 1 := by kernel_rfl
 have e2 : Tryz.prog.cellsOf 66 = 3 := by kernel_rfl
 have e3 : Tryz.prog.cellsOf 3 = 1 := by kernel_rfl
 have e4 : Tryz.prog.cellsOf 3 = 1 := by kernel_rfl
 have e5 : Tryz.prog.cellsOf 53 = 1 := by kernel_rfl
 have e6 : Tryz.prog.cellsOf 67 = 1 := by kernel_rfl
 have e7 : Tryz.prog.cellsOf 68 = 1 := by kernel_rfl
 have h0 := hf 0 _ rfl
 have h1 := hf 1 _ rfl
 have h2 := hf 2 _ rfl
 have h3 := hf 3 _ rfl
 have h4 := hf 4 _ rfl
 have h5 := hf 5 _ rfl
 have h6 := hf 6 _ rfl
 have h7 := hf 7 _ rfl
 rw [zgh (by omega)] at h0 h1 h2 h3 h4 h5 h6 h7
 have h0' : DataW.trod enc Tryz.prog w base spare held f' 46 [u0, u1] = some ys[0] := by simpa [e0, e1, e2, e3, e4, e5, e6, e7] using h0
 have h1' : DataW.trod enc Tryz.prog w base spare held f' 27 [u2] = some ys[1] := by simpa [e0, e1, e2, e3, e4, e5, e6, e7] using h1
 have h2' : DataW.trod enc Tryz.prog w base spare held f' 66 [u3, u4, u5] = some ys[2] := by simpa [e0, e1, e2, e3, e4, e5, e6, e7] using h2
 have h3' : DataW.trod enc Tryz.prog w base spare held f' 3 [u6] = some ys[3] := by simpa [e0, e1, e2, e3, e4, e5, e6, e7] using h3
 have h4' : DataW.trod enc Tryz.prog w base spare held f' 3 [u7] = some ys[4] := by simpa [e0, e1, e2, e3, e4, e5, e6, e7] using h4
 have h5' : DataW.trod enc Tryz.prog w base spare held f' 53 [u8] = some ys[5] := by simpa [e0, e1, e2, e3, e4, e5, e6, e7] using h5
 have h6' : DataW.trod enc Tryz.prog w base spare held f' 67 [u9] = some ys[6] := by simpa [e0, e1, e2, e3, e4, e5, e6, e7] using h6
 have h7' : DataW.trod enc Tryz.prog w base spare held f' 68 [u10] = some ys[7] := by simpa [e0, e1, e2, e3, e4, e5, e6, e7] using h7
 clear h0 h1 h2 h3 h4 h5 h6 h7
 obtain ⟨A, n, c, B, m, d, ps, ns, hA, hn, hmm, hrA, hrB⟩ := trod_topo h0'
 obtain ⟨U, nu, cu, bs, hU, hnu, hrU⟩ := trod_bools h1'
 obtain ⟨z3, rfl⟩ := trod_ints2 (k := 4) (by kernel_rfl) h2' u3 (by simp)
 obtain ⟨z4, rfl⟩ := trod_ints2 (k := 4) (by kernel_rfl) h2' u4 (by simp)
 obtain ⟨z5, rfl⟩ := trod_ints2 (k := 4) (by kernel_rfl) h2' u5 (by simp)
 obtain ⟨z6, rfl⟩ := trod_ints2 (k := 4) (by kernel_rfl) h3' u6 (by simp)
 obtain ⟨z7, rfl⟩ := trod_ints2 (k := 4) (by kernel_rfl) h4' u7 (by simp)
 obtain ⟨K, nk, ck, zk, rfl, hnk, hck, hzk⟩ := open_int_slice (C := 11) (k := 4) Tryz.underlying53 (by kernel_rfl) (by omega) (by kernel_rfl) h5'
 obtain ⟨R, nr, cr, rs, hR, hnr, hrR⟩ := trod_runs h6'
 obtain ⟨E, ne, ce, ze, rfl, hne, hce, hze⟩ := open_int_slice (C := 3) (k := 4) Tryz.underlying68 (by kernel_rfl) (by omega) (by kernel_rfl) h7'
 simp only [List.cons.injEq, and_true] at hA hU hR
 obtain ⟨rfl, rfl⟩ := hA
 subst hU hR
 exact ⟨⟨A, B, U, K, R, E, n, m, nu, nk, nr, ne, c, d, cu, ck, cr, ce⟩, ⟨ps, ns, bs, ⟨z3, z4, z5⟩, z6, z7, jsOf nk zk, rs, ensOf ne ze⟩, rfl, ⟨hn, hmm, hnu, hnk, hnr, hne⟩, ⟨hrA, hrB, hrU, rdJ_of hzk, hrR, rdEn_of hze⟩⟩
set_option maxRecDepth 100000 in
theorem open_state {r : Reach} {b0 : Nat} {v : Value} {d : DataW H} {p : List MemPlace} (hv : Value.okWide Tryz.prog w r b0 70 v) (h : DataW.Trod enc Tryz.prog w base spare held 70 v d p) :
  ∃ (a : SA) (s : St), v = a.v s ∧ StMax a ∧ StIn w a s := by
 obtain ⟨cs, fuel, x, hcs, h1⟩ := open_agg (fs := _) Tryz.underlying70 hv h
 subst hcs
 exact trod_state h1
end
end Go.Proofs.YtnphjhbfpoekpaaGreat
