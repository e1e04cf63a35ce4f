/-
  Texts of this proof, put together.
-/
import Derived.Test.YtjnfdcojccgfoaaA8
import Derived.Test.YtjnfdcojccgfoaaA9
import Derived.Test.YtjnfdcojccgfoaaA10
/- TextTopo: what is read from a text. -/
namespace Go.Proofs.Ytjnfdcojccgfoaa
set_option linter.unusedSimpArgs false
set_option linter.unusedVariables false
set_option linter.unnecessarySimpa false
open Go.RowKit
def swW : ByteArray := ⟨#[115, 119, 105, 116, 99, 104]⟩
def noW : ByteArray := ⟨#[110, 111, 100, 101]⟩
def lineT (t : List Int × List Q) (l : ByteArray) : List Int × List Q :=
  match parts l 32 with
  | [a, x] => if a = swW then (t.1 ++ [tnumV x], t.2) else t
  | [a, x, v] => if a = noW then (t.1, t.2 ++ [⟨tnumV x, (tvecV v).A, (tvecV v).B, (tvecV v).C⟩]) else t
  | _ => t
def parseN (s : ByteArray) (k : Nat) : List Int × List Q := ((parts s 10).take k).foldl lineT ([0], [])
def parseT (s : ByteArray) : List Int × List Q := parseN s (parts s 10).length
def ttB (s : ByteArray) : Bool := topoOkB (parseT s).1 (parseT s).2 && decide (topoTxt (parseT s).1 (parseT s).2 = s)
def ttP (s : ByteArray) : List Int := if ttB s then (parseT s).1 else []
def ttN (s : ByteArray) : List Q := if ttB s then (parseT s).2 else []
theorem lineT_len (t : List Int × List Q) (l : ByteArray) : t.1.length ≤ (lineT t l).1.length ∧ t.2.length ≤ (lineT t l).2.length ∧ (lineT t l).1.length ≤ t.1.length + 1 ∧ (lineT t l).2.length ≤ t.2.length + 1 := by
  unfold lineT
  split
  · split <;> simp
  · split <;> simp
  · simp
theorem fold_len : ∀ (ls : List ByteArray) (t : List Int × List Q), t.1.length ≤ (ls.foldl lineT t).1.length ∧ t.2.length ≤ (ls.foldl lineT t).2.length
  | [], t => by simp
  | l :: ls, t => by
    have h1 := lineT_len t l
    have h2 := fold_len ls (lineT t l)
    simp only [List.foldl_cons]; omega
theorem parseN_succ {s : ByteArray} {k : Nat} {l : ByteArray} (h : (parts s 10)[k]? = some l) : parseN s (k + 1) = lineT (parseN s k) l := by
  unfold parseN
  rw [List.take_add_one, h]
  simp
theorem parseN_le (s : ByteArray) (k : Nat) : (parseN s k).1.length ≤ (parseT s).1.length ∧ (parseN s k).2.length ≤ (parseT s).2.length := by
  have e : parseT s = ((parts s 10).drop k).foldl lineT (parseN s k) := by
    unfold parseT parseN
    rw [List.take_length, ← List.foldl_append, List.take_append_drop]
  rw [e]
  exact fold_len _ _
theorem tt_big {s : ByteArray} {k : Nat} (h : 24 < (parseN s k).1.length ∨ 24 < (parseN s k).2.length) : ttB s = false := by
  have h1 := parseN_le s k
  unfold ttB
  have : topoOkB (parseT s).1 (parseT s).2 = false := by
    cases hb : topoOkB (parseT s).1 (parseT s).2 with
    | false => rfl
    | true =>
      obtain ⟨_, a, _, b, _⟩ := topo_parts hb
      omega
  rw [this]; rfl
theorem tt_no {s : ByteArray} (h : ttB s = false) : ttP s = [] ∧ ttN s = [] := by
  unfold ttP ttN; rw [h]; exact ⟨rfl, rfl⟩
theorem tt_yes {s : ByteArray} (h : ttB s = true) : ttP s = (parseT s).1 ∧ ttN s = (parseT s).2 := by
  unfold ttP ttN; rw [h]; exact ⟨rfl, rfl⟩
/-- What a round of the reading keeps. -/
structure TT (w wr : World) (lo b0 b : Nat) (S : Value) (M : Nat) (strs : List Value) (ps : List Int) (ns : List Q) : Prop where
  box : TBox wr lo b ps ns
  str : wr.ownsRow lo 9 1 S M strs
  res : wr.heap[b0]? = some (.cells #[.slice none 0 0, .slice none 0 0] 80 (0, 0))
  bel : Below w.heap.size w wr
  hb0 : b0 ≠ b
  hlo : w.heap.size ≤ lo
  hb : w.heap.size ≤ b
theorem TT.below {w wr w' : World} {lo b0 b M : Nat} {S : Value} {strs : List Value} {ps : List Int} {ns : List Q} (h : TT w wr lo b0 b S M strs ps ns) (hb : Below wr.heap.size wr w') : TT w w' lo b0 b S M strs ps ns :=
  ⟨h.box.bel hb, own_bel h.str hb, bx_below h.res hb, bstep h.bel hb, h.hb0, h.hlo, h.hb⟩
theorem TT.put0 {w wr w1 : World} {lo b0 b M : Nat} {S : Value} {strs : List Value} {ps : List Int} {ns : List Q} (h : TT w wr lo b0 b S M strs ps ns) {x : Int} {A B : Option Addr} {c d : Nat} {v : Value}
    (h1 : wr.heap[b]? = some (.cells #[.slice A ps.length c, .slice B ns.length d] 80 (0, 0))) (h2 : wr.ownsRow lo 3 1 (.slice A ps.length c) ps.length (ints ps)) (h3 : wr.ownsRow lo 104 4 (.slice B ns.length d) ns.length (flat ns))
    (hv : w1.ownsRow lo 3 1 v (ps.length + 1) (ints ps ++ [.int .i64 x])) (hg : wr.grownBy w1 (Value.slice A ps.length c).ownBlock) : TT w (w1.setCell ⟨b, 0, none⟩ v) lo b0 b S M strs (ps ++ [x]) ns := by
  have e1 : w1.heap[b]? = some (.cells #[.slice A ps.length c, .slice B ns.length d] 80 (0, 0)) := bx_grown h1 hg (fun k hk => own_ne h2 h1 (by decide) k hk)
  have es := own_grown h.str hg (fun k hk e => own_ap h2 h.str (by decide) k e hk)
  refine ⟨TBox.put0 h1 h2 h3 hv hg, own_set es (own_ne es e1 (by decide)) _, bx_set (bx_grown h.res hg (fun k hk => own_ne h2 h.res (by decide) k hk)) h.hb0 _, ?_, h.hb0, h.hlo, h.hb⟩
  exact (Below.grown h.bel hg h.bel.size (fun k hk => by have := own_ge h2 k hk; have := h.hlo; omega)).setCell h.hb _
theorem TT.put1 {w wr w1 : World} {lo b0 b M : Nat} {S : Value} {strs : List Value} {ps : List Int} {ns : List Q} (h : TT w wr lo b0 b S M strs ps ns) {q : Q} {A B : Option Addr} {c d : Nat} {v : Value}
    (h1 : wr.heap[b]? = some (.cells #[.slice A ps.length c, .slice B ns.length d] 80 (0, 0))) (h2 : wr.ownsRow lo 3 1 (.slice A ps.length c) ps.length (ints ps)) (h3 : wr.ownsRow lo 104 4 (.slice B ns.length d) ns.length (flat ns))
    (hv : w1.ownsRow lo 104 4 v (ns.length + 1) (flat ns ++ [.int .i64 q.t, .int .i64 q.a, .int .i64 q.b, .int .i64 q.c])) (hg : wr.grownBy w1 (Value.slice B ns.length d).ownBlock) : TT w (w1.setCell ⟨b, 1, none⟩ v) lo b0 b S M strs ps (ns ++ [q]) := by
  have e1 : w1.heap[b]? = some (.cells #[.slice A ps.length c, .slice B ns.length d] 80 (0, 0)) := bx_grown h1 hg (fun k hk => own_ne h3 h1 (by decide) k hk)
  have es := own_grown h.str hg (fun k hk e => own_ap h3 h.str (by decide) k e hk)
  refine ⟨TBox.put1 h1 h2 h3 hv hg, own_set es (own_ne es e1 (by decide)) _, bx_set (bx_grown h.res hg (fun k hk => own_ne h3 h.res (by decide) k hk)) h.hb0 _, ?_, h.hb0, h.hlo, h.hb⟩
  exact (Below.grown h.bel hg h.bel.size (fun k hk => by have := own_ge h3 k hk; have := h.hlo; omega)).setCell h.hb _
end Go.Proofs.Ytjnfdcojccgfoaa

/- Contract of TextTopo (program). -/
namespace Go.Proofs.Ytjnfdcojccgfoaa
set_option linter.unusedSimpArgs false
set_option linter.unusedVariables false
set_option linter.unnecessarySimpa false
open Go.RowKit
theorem infoN : (Try.prog.info? 104).map (fun i => (i.zero, i.size, i.bytes)) = some (some (.agg #[.int .i64 0, .int .i64 0, .int .i64 0, .int .i64 0]), 4, 32) := by kernel_rfl
theorem parts_le9 (s : ByteArray) (u : UInt8) : (parts s u).length ≤ s.size + 1 := by
  have := (pieces_le s u s.size).1
  unfold parts; simp; omega
theorem TT.start {w w1 : World} {S : Value} {M lo : Nat} {strs : List Value}
    (hb : Below (((w.alloc (.cells #[.slice none 0 0, .slice none 0 0] 80)).alloc (.cells #[.int .i64 0] 3)).alloc (.cells #[.slice (some ⟨w.heap.size + 1, 0, none⟩) 1 1, .slice none 0 0] 80)).heap.size (((w.alloc (.cells #[.slice none 0 0, .slice none 0 0] 80)).alloc (.cells #[.int .i64 0] 3)).alloc (.cells #[.slice (some ⟨w.heap.size + 1, 0, none⟩) 1 1, .slice none 0 0] 80)) w1)
    (own : w1.ownsRow lo 9 1 S M strs) (hlo : w.heap.size + 1 ≤ lo) : TT w w1 (w.heap.size + 1) w.heap.size (w.heap.size + 1 + 1) S M strs [0] [] := by
  have h2 := bx_below (heap_at (w := (w.alloc (.cells #[.slice none 0 0, .slice none 0 0] 80)).alloc (.cells #[.int .i64 0] 3)) (.cells #[.slice (some ⟨w.heap.size + 1, 0, none⟩) 1 1, .slice none 0 0] 80) (k := w.heap.size + 1 + 1) (by simp)) hb
  have h1 := bx_below (bx_alloc (heap_at (w := w.alloc (.cells #[.slice none 0 0, .slice none 0 0] 80)) (.cells #[.int .i64 0] 3) (k := w.heap.size + 1) (by simp)) _) hb
  have h0 := bx_below (bx_alloc (bx_alloc (heap_at (w := w) (.cells #[.slice none 0 0, .slice none 0 0] 80) rfl) _) _) hb
  refine ⟨⟨_, 1, none, 0, h2, ?_, own_nil _ _ _ _⟩, own_mono own hlo, h0, ?_, by omega, by omega, by omega⟩
  · exact own_lit (cs := [.int .i64 0]) (n := 1) h1 rfl (by decide) (Nat.le_refl _)
  · exact bstep (bstep (bstep (below_alloc _ _) (below_alloc _ _)) (below_alloc _ _)) hb
theorem lit_eq {a : ByteArray} {l : List UInt8} (h : a = ⟨l.toArray⟩) : (a.toList == l) = true := by
  rw [Go.ByteArray.toList_eq, h]; simp
theorem lit_ne {a : ByteArray} {l : List UInt8} (h : a ≠ ⟨l.toArray⟩) : (a.toList == l) = false := by
  rw [Go.ByteArray.toList_eq]
  cases e : (a.data.toList == l) with
  | false => rfl
  | true =>
    exfalso
    apply h
    have e1 : a.data.toList = l := by simpa using e
    obtain ⟨⟨x⟩⟩ := a
    simp only at e1
    rw [← e1]
theorem TT.addr {w wr : World} {lo b0 b M : Nat} {S : Value} {strs : List Value} {ps : List Int} {ns : List Q} (h : TT w wr lo b0 b S M strs ps ns) : ∃ A c B d, wr.heap[b]? = some (.cells #[.slice A ps.length c, .slice B ns.length d] 80 (0, 0)) ∧ wr.ownsRow lo 3 1 (.slice A ps.length c) ps.length (ints ps) ∧ wr.ownsRow lo 104 4 (.slice B ns.length d) ns.length (flat ns) := h.box.ex
def TTR (s : ByteArray) (w wr : World) (S : Value) (M k : Nat) : Prop := (parseN s k).1.length ≤ 24 ∧ (parseN s k).2.length ≤ 24 ∧ TT w wr (w.heap.size + 1) w.heap.size (w.heap.size + 1 + 1) S M ((parts s 10).map Value.string) (parseN s k).1 (parseN s k).2
theorem str_at {w : World} {lo : Nat} {A : Option Addr} {n c : Nat} {ss : List ByteArray} (h : w.ownsRow lo 9 1 (.slice A n c) n (ss.map Value.string)) {k : Nat} {p : ByteArray} (hp : ss[k]? = some p) : ∃ g, A = some ⟨g, 0, none⟩ ∧ w.cell? ⟨g, k, none⟩ = some (.string p) ∧ g < w.heap.size := by
  have rd := own_rdd' h
  have hl : ss.length = n := by have := rd.1; simpa using this
  have hk : k < n := by have := (List.getElem?_eq_some_iff.1 hp).1; omega
  obtain ⟨g, u, rfl, hu, hc⟩ := rd.at_ hk
  rw [List.getElem?_map, hp] at hu
  simp at hu
  exact ⟨g, rfl, by rw [hc, ← hu], own_blk h g rfl⟩

set_option maxHeartbeats 8000000 in
set_option maxRecDepth 20000 in
theorem textTopo_any (s : ByteArray) (w : World) (hs : s.size ≤ 1048576) :
    Calls Try.prog 87 #[.string s] w fun e w' => ∃ u v, e = .returned (.tuple #[.agg #[u, v], .bool (ttB s)]) ∧ w'.ownsRow w.heap.size 3 1 u (ttP s).length (ints (ttP s)) ∧ w'.ownsRow w.heap.size 104 4 v (ttN s).length (flat (ttN s)) ∧ Below w.heap.size w w' := by
  have HS := Lib.hid hs
  have hpl := parts_le9 s 10
  go_enter Try.func87, Try.ntmps87
  go_wp2_with fail
  refine (parts_any s _ 10 rfl _ HS.out).mono ?_
  rintro e w1 ⟨v1, rfl, own1, hb1⟩
  obtain ⟨A1, c1, rfl, rd1⟩ := own_rd own1
  clear rd1
  have T0 := Lib.hid (TT.start hb1 own1 (by simp <;> omega))
  clear hb1 own1
  generalize hM : (parts s 10).length = M at T0 hpl ⊢
  have HM := Lib.hid hM
  clear hM
  go_wp2
  go_loopw [16] (fun i wr => ∃ k : Nat, k ≤ M ∧ i = .int .i64 k ∧ TTR s w wr (.slice A1 M c1) M k) (fun i _ => M - (intOf i).toNat)
  case atStart => exact ⟨0, Nat.zero_le _, rfl, by show 1 ≤ 24; omega, by show 0 ≤ 24; omega, T0.out⟩
  case round =>
    obtain ⟨k, hk, rfl, HH⟩ := hrel
    obtain ⟨hl1, hl2, T'⟩ := HH
    have T := Lib.hid T'
    clear T'
    by_cases hlt : k < M
    · have hlt' : (k : Int) < M := by omega
      obtain ⟨l, hl⟩ : ∃ l, (parts s 10)[k]? = some l := ⟨_, List.getElem?_eq_getElem (by rw [HM.out]; omega)⟩
      have hls : l.size ≤ s.size := parts_size s 10 l (List.mem_of_getElem? hl)
      have hL := parseN_succ hl
      generalize parseN s k = P at hL hl1 hl2 T
      obtain ⟨ps, ns⟩ := P
      dsimp only at hl1 hl2 T
      have HL := Lib.hid hL
      clear hL
      obtain ⟨g, rfl, hc, hgl⟩ := str_at T.out.str hl
      clear hl
      obtain ⟨a, r, hpa⟩ : ∃ a r, parts l 32 = a :: r := by
        cases h : parts l 32 with
        | nil => unfold parts at h; simp at h
        | cons a r => exact ⟨a, r, rfl⟩
      rcases r with _ | ⟨x, _ | ⟨v, _ | ⟨y, r⟩⟩⟩
      · skip
        go_wp2_with fail
        refine (parts_any l _ 32 rfl _ (by omega)).mono ?_
        rintro e w2 ⟨v2, rfl, own2, hb2⟩
        rw [hpa] at own2
        have own2' : w2.ownsRow _ 9 1 v2 1 (([a] : List ByteArray).map Value.string) := own2
        clear own2
        obtain ⟨A2, c2, rfl, rd2⟩ := own_rd own2'
        clear rd2
        have T2 := Lib.hid (T.out.below hb2)
        clear hb2 hc
        obtain ⟨g2, rfl, q0, hg2⟩ := str_at own2' (k := 0) rfl
        clear own2'
        have HLT : Hid (parseN s (k + 1) = (ps, ns)) := Lib.hid (by rw [HL.out]; unfold lineT; rw [hpa])
        go_upto_region 14 with fail
        obtain ⟨A5, c5, B5, d5, h1, h2, h3⟩ := T2.out.box.ex
        have hlw := heap_lt h1
        have k0 := bx_cell h1 0 rfl
        have k1 := bx_cell h1 1 rfl
        have kf := bx_frz h1
        simp only [List.getElem_toArray, List.getElem_cons_zero, List.getElem_cons_succ] at k0 k1
        have H1 := Lib.hid h1
        have H2 := Lib.hid h2
        have H3 := Lib.hid h3
        clear h1 h2 h3
        have x1' : ¬ (24 : Int) < ps.length := by omega
        have x2' : ¬ (24 : Int) < ns.length := by omega
        go_wp2
        go_roundw
        case rel => exact ⟨k + 1, by omega, by go_num, by rw [HLT.out]; exact hl1, by rw [HLT.out]; exact hl2, by rw [HLT.out]; exact T2.out⟩
        case measure => simp [intOf]; omega

      · skip
        go_wp2_with fail
        refine (parts_any l _ 32 rfl _ (by omega)).mono ?_
        rintro e w2 ⟨v2, rfl, own2, hb2⟩
        rw [hpa] at own2
        have own2' : w2.ownsRow _ 9 1 v2 2 (([a, x] : List ByteArray).map Value.string) := own2
        clear own2
        obtain ⟨A2, c2, rfl, rd2⟩ := own_rd own2'
        clear rd2
        have T2 := Lib.hid (T.out.below hb2)
        clear hb2 hc
        obtain ⟨g2, rfl, q0, hg2⟩ := str_at own2' (k := 0) rfl
        have q1 : w2.cell? ⟨g2, 1, none⟩ = some (.string x) := by
          obtain ⟨g', e, c, _⟩ := str_at own2' (k := 1) rfl
          injection e with e
          injection e with e
          rw [e]; exact c
        clear own2'
        have hxs : x.size ≤ maxLen := by
          have := parts_size l 32 x (by rw [hpa]; simp)
          unfold maxLen; omega
        by_cases ha : a = swW
        · have hs1 : (a.toList == [115, 119, 105, 116, 99, 104]) = true := lit_eq ha
          have HLT : Hid (parseN s (k + 1) = (ps ++ [tnumV x], ns)) := Lib.hid (by rw [HL.out]; unfold lineT; rw [hpa]; simp [ha])
          clear ha
          go_wp2_with fail
          refine (textNum_any x _ hxs).mono ?_
          rintro e w3 ⟨rfl, hb3⟩
          have hs3 := hb3.size
          (try simp at hs3)
          have T3 := Lib.hid (T2.out.below hb3)
          clear T2
          obtain ⟨A5, c5, B5, d5, h1, h2, h3⟩ := T3.out.box.ex
          have hlw := heap_lt h1
          have k0 := bx_cell h1 0 rfl
          have k1 := bx_cell h1 1 rfl
          have kf := bx_frz h1
          simp only [List.getElem_toArray, List.getElem_cons_zero, List.getElem_cons_succ] at k0 k1
          have H1 := Lib.hid h1
          have H2 := Lib.hid h2
          have H3 := Lib.hid h3
          clear h1 h2 h3
          obtain ⟨i0, hi, hz0, hz1, hz2⟩ := info_parts infoI
          go_wp2_with (at_builtin; refine wpList_append_own _ rfl _ _ 66 rfl (w.heap.size + 1) 3 i0 (.int .i64 0) 1 8 Try.underlying66 hi hz0 hz1 hz2 rfl (by decide) _ _ _ rfl (own_bel H2.out (below_alloc _ _)) ⟨w3.heap.size, 0, none⟩ 1 1 [.int .i64 (tnumV x)] rfl rfl ?c1 ?c2 ?c3 ?c4 ?c5 ?_)
          try case c1 =>
            intro j y hy
            match j, hy with
            | 0, hy => (simp at hy; subst hy; simp [Addr.add])
          try case c2 => simp [Value.oneCell']
          case c3 => unfold maxLen; skip; omega
          case c4 => skip; omega
          try case c5 => first | omega | (simp <;> omega)
          intro v4 w4 own4 hg4 _
          have T4 := Lib.hid (T3.out.below (below_alloc w3 (.cells #[.int .i64 (tnumV x)] 3)))
          have T5' := T4.out.put0 (bx_alloc H1.out _) (own_bel H2.out (below_alloc _ _)) (own_bel H3.out (below_alloc _ _)) own4 hg4
          obtain ⟨A6, c6, rfl, rd6⟩ := own_rd own4
          have e4 := bx_grown (bx_alloc H1.out (.cells #[.int .i64 (tnumV x)] 3)) hg4 (own_ne (own_bel H2.out (below_alloc w3 (.cells #[.int .i64 (tnumV x)] 3))) (bx_alloc H1.out _) (by decide))
          have g0 := bx_cell e4 0 rfl
          have g1 := bx_cell e4 1 rfl
          have gf := bx_frz e4
          simp only [List.getElem_toArray, List.getElem_cons_zero, List.getElem_cons_succ] at g0 g1
          clear rd6 own4 hi hz0 hz1 hz2 k0 k1 kf H1 H2 H3 hg4 e4
          go_upto_region 14 with fail
          obtain ⟨ps', hps'⟩ : ∃ p, p = ps ++ [tnumV x] := ⟨_, rfl⟩
          obtain ⟨ns', hns'⟩ : ∃ p, p = ns := ⟨_, rfl⟩
          have HLT' : Hid (parseN s (k + 1) = (ps', ns')) := Lib.hid (by rw [HLT.out, hps', hns'])
          have hm1 : ps'.length ≤ 25 := by rw [hps']; (try simp); omega
          have hm2 : ns'.length ≤ 25 := by rw [hns']; (try simp); omega
          rw [← hps'] at T5'
          rw [← hns'] at T5'
          have T5 := Lib.hid T5'
          clear T5' hps' hns' HLT
          clear g0 g1 gf
          generalize w4.setCell _ _ = w5 at *
          obtain ⟨A5, c5, B5, d5, h1, h2, h3⟩ := T5.out.box.ex
          have hlw := heap_lt h1
          have k0 := bx_cell h1 0 rfl
          have k1 := bx_cell h1 1 rfl
          have kf := bx_frz h1
          simp only [List.getElem_toArray, List.getElem_cons_zero, List.getElem_cons_succ] at k0 k1
          have H1 := Lib.hid h1
          have H2 := Lib.hid h2
          have H3 := Lib.hid h3
          clear h1 h2 h3
          by_cases x1 : 24 < ps'.length
          · have x1' : (24 : Int) < ps'.length := by omega
            have HBG : Hid (ttB s = false) := Lib.hid (tt_big (k := k + 1) (by rw [HLT'.out]; simp only; omega))
            have r0 := bx_cell T5.out.res 0 rfl
            have r1 := bx_cell T5.out.res 1 rfl
            have rf := bx_frz T5.out.res
            simp only [List.getElem_toArray, List.getElem_cons_zero, List.getElem_cons_succ] at r0 r1
            go_wp2
            (try go_light)
            refine bodyPost_ret (v := .tuple #[.agg #[.slice none 0 0, .slice none 0 0], .bool false]) (by simp [results, Try.results87, go_sem, *]) rfl ?_
            refine ⟨_, _, by rw [HBG.out], ?_, ?_, ?_⟩
            · rw [(tt_no HBG.out).1]; exact own_nil _ _ _ _
            · rw [(tt_no HBG.out).2]; exact own_nil _ _ _ _
            · exact (T5.out.bel.setCell (Nat.le_refl _) _).setCell (Nat.le_refl _) _
          · have x1' : ¬ (24 : Int) < ps'.length := by omega
            by_cases x2 : 24 < ns'.length
            · have x2' : (24 : Int) < ns'.length := by omega
              have HBG : Hid (ttB s = false) := Lib.hid (tt_big (k := k + 1) (by rw [HLT'.out]; simp only; omega))
              have r0 := bx_cell T5.out.res 0 rfl
              have r1 := bx_cell T5.out.res 1 rfl
              have rf := bx_frz T5.out.res
              simp only [List.getElem_toArray, List.getElem_cons_zero, List.getElem_cons_succ] at r0 r1
              go_wp2
              (try go_light)
              refine bodyPost_ret (v := .tuple #[.agg #[.slice none 0 0, .slice none 0 0], .bool false]) (by simp [results, Try.results87, go_sem, *]) rfl ?_
              refine ⟨_, _, by rw [HBG.out], ?_, ?_, ?_⟩
              · rw [(tt_no HBG.out).1]; exact own_nil _ _ _ _
              · rw [(tt_no HBG.out).2]; exact own_nil _ _ _ _
              · exact (T5.out.bel.setCell (Nat.le_refl _) _).setCell (Nat.le_refl _) _
            · have x2' : ¬ (24 : Int) < ns'.length := by omega
              go_wp2
              go_roundw
              case rel => exact ⟨k + 1, by omega, by go_num, by rw [HLT'.out]; show ps'.length ≤ 24; omega, by rw [HLT'.out]; show ns'.length ≤ 24; omega, by rw [HLT'.out]; exact T5.out⟩
              case measure => simp [intOf]; omega
        · have hs1 : (a.toList == [115, 119, 105, 116, 99, 104]) = false := lit_ne ha
          have HLT : Hid (parseN s (k + 1) = (ps, ns)) := Lib.hid (by rw [HL.out]; unfold lineT; rw [hpa]; simp [ha])
          clear ha
          go_upto_region 14 with fail
          obtain ⟨A5, c5, B5, d5, h1, h2, h3⟩ := T2.out.box.ex
          have hlw := heap_lt h1
          have k0 := bx_cell h1 0 rfl
          have k1 := bx_cell h1 1 rfl
          have kf := bx_frz h1
          simp only [List.getElem_toArray, List.getElem_cons_zero, List.getElem_cons_succ] at k0 k1
          have H1 := Lib.hid h1
          have H2 := Lib.hid h2
          have H3 := Lib.hid h3
          clear h1 h2 h3
          have x1' : ¬ (24 : Int) < ps.length := by omega
          have x2' : ¬ (24 : Int) < ns.length := by omega
          go_wp2
          go_roundw
          case rel => exact ⟨k + 1, by omega, by go_num, by rw [HLT.out]; exact hl1, by rw [HLT.out]; exact hl2, by rw [HLT.out]; exact T2.out⟩
          case measure => simp [intOf]; omega

      · skip
        go_wp2_with fail
        refine (parts_any l _ 32 rfl _ (by omega)).mono ?_
        rintro e w2 ⟨v2, rfl, own2, hb2⟩
        rw [hpa] at own2
        have own2' : w2.ownsRow _ 9 1 v2 3 (([a, x, v] : List ByteArray).map Value.string) := own2
        clear own2
        obtain ⟨A2, c2, rfl, rd2⟩ := own_rd own2'
        clear rd2
        have T2 := Lib.hid (T.out.below hb2)
        clear hb2 hc
        obtain ⟨g2, rfl, q0, hg2⟩ := str_at own2' (k := 0) rfl
        have q1 : w2.cell? ⟨g2, 1, none⟩ = some (.string x) := by
          obtain ⟨g', e, c, _⟩ := str_at own2' (k := 1) rfl
          injection e with e
          injection e with e
          rw [e]; exact c
        have q2 : w2.cell? ⟨g2, 2, none⟩ = some (.string v) := by
          obtain ⟨g', e, c, _⟩ := str_at own2' (k := 2) rfl
          injection e with e
          injection e with e
          rw [e]; exact c
        clear own2'
        have hxs : x.size ≤ maxLen := by
          have := parts_size l 32 x (by rw [hpa]; simp)
          unfold maxLen; omega
        have hvs : v.size ≤ 1048576 := by
          have := parts_size l 32 v (by rw [hpa]; simp)
          have := HS.out
          omega
        by_cases ha : a = noW
        · have hs1 : (a.toList == [110, 111, 100, 101]) = true := lit_eq ha
          have HLT : Hid (parseN s (k + 1) = (ps, ns ++ [⟨tnumV x, (tvecV v).A, (tvecV v).B, (tvecV v).C⟩])) := Lib.hid (by rw [HL.out]; unfold lineT; rw [hpa]; simp [ha])
          clear ha
          go_wp2_with fail
          refine (textNum_any x _ hxs).mono ?_
          rintro e w3 ⟨rfl, hb3⟩
          have hs3 := hb3.size
          (try simp at hs3)
          have hy30 : w2.heap.size < w3.heap.size := by omega
          have hk30 := fun o => hb3.cell (p := ⟨w2.heap.size, o, none⟩) (by first | omega | (simp <;> omega))
          have hg30 := fun o => hb3.frozen (p := ⟨w2.heap.size, o, none⟩) (by first | omega | (simp <;> omega))
          have hy31 : g2 < w3.heap.size := by omega
          have hk31 := fun o => hb3.cell (p := ⟨g2, o, none⟩) (by first | omega | (simp <;> omega))
          have hg31 := fun o => hb3.frozen (p := ⟨g2, o, none⟩) (by first | omega | (simp <;> omega))
          go_wp2_with fail
          refine (textVec_any v _ hvs).mono ?_
          rintro e w4 ⟨rfl, hb4⟩
          have hs4 := hb4.size
          (try simp at hs4)
          have hy40 : w2.heap.size < w4.heap.size := by omega
          have hk40 := fun o => hb4.cell (p := ⟨w2.heap.size, o, none⟩) (by first | omega | (simp <;> omega))
          have hg40 := fun o => hb4.frozen (p := ⟨w2.heap.size, o, none⟩) (by first | omega | (simp <;> omega))
          have hy41 : g2 < w4.heap.size := by omega
          have hk41 := fun o => hb4.cell (p := ⟨g2, o, none⟩) (by first | omega | (simp <;> omega))
          have hg41 := fun o => hb4.frozen (p := ⟨g2, o, none⟩) (by first | omega | (simp <;> omega))
          go_upto_region 13 with fail
          have T5 := Lib.hid (T2.out.below (show Below w2.heap.size w2 (((w4.setCell ⟨w2.heap.size, 1, none⟩ (.int .i64 (tvecV v).A)).setCell ⟨w2.heap.size, 2, none⟩ (.int .i64 (tvecV v).B)).setCell ⟨w2.heap.size, 3, none⟩ (.int .i64 (tvecV v).C)) from (by repeat (first | exact Below.refl _ _ | (with_reducible refine Below.setCell ?_ (by simp <;> omega) _) | (with_reducible refine bstep ?_ hb4) | (with_reducible refine bstep ?_ hb3) | (with_reducible refine bstep ?_ (below_alloc _ _))))))
          have e0 : (((w4.setCell ⟨w2.heap.size, 1, none⟩ (.int .i64 (tvecV v).A)).setCell ⟨w2.heap.size, 2, none⟩ (.int .i64 (tvecV v).B)).setCell ⟨w2.heap.size, 3, none⟩ (.int .i64 (tvecV v).C)).cell? ⟨w2.heap.size, 0, none⟩ = some (.int .i64 (tnumV x)) := by simp [go_sem, *]
          have e1 : (((w4.setCell ⟨w2.heap.size, 1, none⟩ (.int .i64 (tvecV v).A)).setCell ⟨w2.heap.size, 2, none⟩ (.int .i64 (tvecV v).B)).setCell ⟨w2.heap.size, 3, none⟩ (.int .i64 (tvecV v).C)).cell? ⟨w2.heap.size, 1, none⟩ = some (.int .i64 ((tvecV v).A)) := by simp [go_sem, *]
          have e2 : (((w4.setCell ⟨w2.heap.size, 1, none⟩ (.int .i64 (tvecV v).A)).setCell ⟨w2.heap.size, 2, none⟩ (.int .i64 (tvecV v).B)).setCell ⟨w2.heap.size, 3, none⟩ (.int .i64 (tvecV v).C)).cell? ⟨w2.heap.size, 2, none⟩ = some (.int .i64 ((tvecV v).B)) := by simp [go_sem, *]
          have e3 : (((w4.setCell ⟨w2.heap.size, 1, none⟩ (.int .i64 (tvecV v).A)).setCell ⟨w2.heap.size, 2, none⟩ (.int .i64 (tvecV v).B)).setCell ⟨w2.heap.size, 3, none⟩ (.int .i64 (tvecV v).C)).cell? ⟨w2.heap.size, 3, none⟩ = some (.int .i64 ((tvecV v).C)) := by simp [go_sem, *]
          have hnl : w2.heap.size < (((w4.setCell ⟨w2.heap.size, 1, none⟩ (.int .i64 (tvecV v).A)).setCell ⟨w2.heap.size, 2, none⟩ (.int .i64 (tvecV v).B)).setCell ⟨w2.heap.size, 3, none⟩ (.int .i64 (tvecV v).C)).heap.size := by simp; omega
          clear hk30 hk31 hg30 hg31 hk40 hk41 hg40 hg41 hb3 hb4 T2
          generalize (((w4.setCell ⟨w2.heap.size, 1, none⟩ (.int .i64 (tvecV v).A)).setCell ⟨w2.heap.size, 2, none⟩ (.int .i64 (tvecV v).B)).setCell ⟨w2.heap.size, 3, none⟩ (.int .i64 (tvecV v).C)) = w5 at *
          clear hs3 hs4 hy30 hy31 hy40 hy41
          obtain ⟨A5, c5, B5, d5, h1, h2, h3⟩ := T5.out.box.ex
          have hlw := heap_lt h1
          have k0 := bx_cell h1 0 rfl
          have k1 := bx_cell h1 1 rfl
          have kf := bx_frz h1
          simp only [List.getElem_toArray, List.getElem_cons_zero, List.getElem_cons_succ] at k0 k1
          have H1 := Lib.hid h1
          have H2 := Lib.hid h2
          have H3 := Lib.hid h3
          clear h1 h2 h3
          obtain ⟨i0, hi, hz0, hz1, hz2⟩ := info_parts infoN
          go_wp2_with (at_builtin; refine wpList_append_own _ rfl _ _ 78 rfl (w.heap.size + 1) 104 i0 (.agg #[.int .i64 0, .int .i64 0, .int .i64 0, .int .i64 0]) 4 32 Try.underlying78 hi hz0 hz1 hz2 rfl (by decide) _ _ _ rfl (own_bel H3.out (below_alloc _ _)) ⟨w5.heap.size, 0, none⟩ 1 1 [.int .i64 (tnumV x), .int .i64 ((tvecV v).A), .int .i64 ((tvecV v).B), .int .i64 ((tvecV v).C)] rfl rfl ?cn1 ?cn2 ?cn3 ?cn4 ?cn5 ?_)
          try case cn1 =>
            intro j y hy
            match j, hy with
            | 0, hy => (simp at hy; subst hy; simp [Addr.add])
            | 1, hy => (simp at hy; subst hy; simp [Addr.add])
            | 2, hy => (simp at hy; subst hy; simp [Addr.add])
            | 3, hy => (simp at hy; subst hy; simp [Addr.add])
          try case cn2 => simp [Value.oneCell']
          case cn3 => unfold maxLen; skip; omega
          case cn4 => skip; omega
          try case cn5 => first | omega | (simp <;> omega)
          intro v6 w6 own6 hg6 _
          have al := below_alloc w5 (.cells #[.int .i64 (tnumV x), .int .i64 ((tvecV v).A), .int .i64 ((tvecV v).B), .int .i64 ((tvecV v).C)] 104)
          have T6 := Lib.hid (T5.out.below al)
          have T7' := T6.out.put1 (q := ⟨tnumV x, (tvecV v).A, (tvecV v).B, (tvecV v).C⟩) (bx_below H1.out al) (own_bel H2.out al) (own_bel H3.out al) own6 hg6
          obtain ⟨A6, c6, rfl, rd6⟩ := own_rd own6
          have e6 := bx_grown (bx_below H1.out al) hg6 (own_ne (own_bel H3.out al) (bx_below H1.out al) (by decide))
          have g0 := bx_cell e6 0 rfl
          have g1 := bx_cell e6 1 rfl
          have gf := bx_frz e6
          simp only [List.getElem_toArray, List.getElem_cons_zero, List.getElem_cons_succ] at g0 g1
          clear rd6 own6 hi hz0 hz1 hz2 k0 k1 kf H1 H2 H3 hg6 e6 al e0 e1 e2 e3
          go_upto_region 14 with fail
          obtain ⟨ps', hps'⟩ : ∃ p, p = ps := ⟨_, rfl⟩
          obtain ⟨ns', hns'⟩ : ∃ p, p = ns ++ [⟨tnumV x, (tvecV v).A, (tvecV v).B, (tvecV v).C⟩] := ⟨_, rfl⟩
          have HLT' : Hid (parseN s (k + 1) = (ps', ns')) := Lib.hid (by rw [HLT.out, hps', hns'])
          have hm1 : ps'.length ≤ 25 := by rw [hps']; (try simp); omega
          have hm2 : ns'.length ≤ 25 := by rw [hns']; (try simp); omega
          rw [← hps'] at T7'
          rw [← hns'] at T7'
          have T5 := Lib.hid T7'
          clear T7' hps' hns' HLT
          clear g0 g1 gf
          generalize w6.setCell _ _ = w7 at *
          obtain ⟨A5, c5, B5, d5, h1, h2, h3⟩ := T5.out.box.ex
          have hlw := heap_lt h1
          have k0 := bx_cell h1 0 rfl
          have k1 := bx_cell h1 1 rfl
          have kf := bx_frz h1
          simp only [List.getElem_toArray, List.getElem_cons_zero, List.getElem_cons_succ] at k0 k1
          have H1 := Lib.hid h1
          have H2 := Lib.hid h2
          have H3 := Lib.hid h3
          clear h1 h2 h3
          by_cases x1 : 24 < ps'.length
          · have x1' : (24 : Int) < ps'.length := by omega
            have HBG : Hid (ttB s = false) := Lib.hid (tt_big (k := k + 1) (by rw [HLT'.out]; simp only; omega))
            have r0 := bx_cell T5.out.res 0 rfl
            have r1 := bx_cell T5.out.res 1 rfl
            have rf := bx_frz T5.out.res
            simp only [List.getElem_toArray, List.getElem_cons_zero, List.getElem_cons_succ] at r0 r1
            go_wp2
            (try go_light)
            refine bodyPost_ret (v := .tuple #[.agg #[.slice none 0 0, .slice none 0 0], .bool false]) (by simp [results, Try.results87, go_sem, *]) rfl ?_
            refine ⟨_, _, by rw [HBG.out], ?_, ?_, ?_⟩
            · rw [(tt_no HBG.out).1]; exact own_nil _ _ _ _
            · rw [(tt_no HBG.out).2]; exact own_nil _ _ _ _
            · exact (T5.out.bel.setCell (Nat.le_refl _) _).setCell (Nat.le_refl _) _
          · have x1' : ¬ (24 : Int) < ps'.length := by omega
            by_cases x2 : 24 < ns'.length
            · have x2' : (24 : Int) < ns'.length := by omega
              have HBG : Hid (ttB s = false) := Lib.hid (tt_big (k := k + 1) (by rw [HLT'.out]; simp only; omega))
              have r0 := bx_cell T5.out.res 0 rfl
              have r1 := bx_cell T5.out.res 1 rfl
              have rf := bx_frz T5.out.res
              simp only [List.getElem_toArray, List.getElem_cons_zero, List.getElem_cons_succ] at r0 r1
              go_wp2
              (try go_light)
              refine bodyPost_ret (v := .tuple #[.agg #[.slice none 0 0, .slice none 0 0], .bool false]) (by simp [results, Try.results87, go_sem, *]) rfl ?_
              refine ⟨_, _, by rw [HBG.out], ?_, ?_, ?_⟩
              · rw [(tt_no HBG.out).1]; exact own_nil _ _ _ _
              · rw [(tt_no HBG.out).2]; exact own_nil _ _ _ _
              · exact (T5.out.bel.setCell (Nat.le_refl _) _).setCell (Nat.le_refl _) _
            · have x2' : ¬ (24 : Int) < ns'.length := by omega
              go_wp2
              go_roundw
              case rel => exact ⟨k + 1, by omega, by go_num, by rw [HLT'.out]; show ps'.length ≤ 24; omega, by rw [HLT'.out]; show ns'.length ≤ 24; omega, by rw [HLT'.out]; exact T5.out⟩
              case measure => simp [intOf]; omega
        · have hs1 : (a.toList == [110, 111, 100, 101]) = false := lit_ne ha
          have HLT : Hid (parseN s (k + 1) = (ps, ns)) := Lib.hid (by rw [HL.out]; unfold lineT; rw [hpa]; simp [ha])
          clear ha
          go_upto_region 14 with fail
          obtain ⟨A5, c5, B5, d5, h1, h2, h3⟩ := T2.out.box.ex
          have hlw := heap_lt h1
          have k0 := bx_cell h1 0 rfl
          have k1 := bx_cell h1 1 rfl
          have kf := bx_frz h1
          simp only [List.getElem_toArray, List.getElem_cons_zero, List.getElem_cons_succ] at k0 k1
          have H1 := Lib.hid h1
          have H2 := Lib.hid h2
          have H3 := Lib.hid h3
          clear h1 h2 h3
          have x1' : ¬ (24 : Int) < ps.length := by omega
          have x2' : ¬ (24 : Int) < ns.length := by omega
          go_wp2
          go_roundw
          case rel => exact ⟨k + 1, by omega, by go_num, by rw [HLT.out]; exact hl1, by rw [HLT.out]; exact hl2, by rw [HLT.out]; exact T2.out⟩
          case measure => simp [intOf]; omega

      · skip
        go_wp2_with fail
        refine (parts_any l _ 32 rfl _ (by omega)).mono ?_
        rintro e w2 ⟨v2, rfl, own2, hb2⟩
        have HLT : Hid (parseN s (k + 1) = (ps, ns)) := Lib.hid (by rw [HL.out]; unfold lineT; rw [hpa])
        have hN : 4 ≤ (parts l 32).length := by rw [hpa]; simp
        generalize (parts l 32).length = N at *
        obtain ⟨A2, c2, rfl, rd2⟩ := own_rd own2
        clear rd2 own2 hpa
        have T2 := Lib.hid (T.out.below hb2)
        clear hb2 hc
        have h4a : ¬ ((N : Int) = 2) := by omega
        have h4b : ¬ ((N : Int) = 3) := by omega
        go_upto_region 14 with fail
        obtain ⟨A5, c5, B5, d5, h1, h2, h3⟩ := T2.out.box.ex
        have hlw := heap_lt h1
        have k0 := bx_cell h1 0 rfl
        have k1 := bx_cell h1 1 rfl
        have kf := bx_frz h1
        simp only [List.getElem_toArray, List.getElem_cons_zero, List.getElem_cons_succ] at k0 k1
        have H1 := Lib.hid h1
        have H2 := Lib.hid h2
        have H3 := Lib.hid h3
        clear h1 h2 h3
        have x1' : ¬ (24 : Int) < ps.length := by omega
        have x2' : ¬ (24 : Int) < ns.length := by omega
        go_wp2
        go_roundw
        case rel => exact ⟨k + 1, by omega, by go_num, by rw [HLT.out]; exact hl1, by rw [HLT.out]; exact hl2, by rw [HLT.out]; exact T2.out⟩
        case measure => simp [intOf]; omega

    · skip
      have hk9 : k = M := by omega
      have hlt' : ¬ (k : Int) < M := by omega
      have hP : parseN s k = parseT s := by rw [hk9, ← HM.out]; rfl
      have HBQ : Hid (ttB s = (topoOkB (parseT s).1 (parseT s).2 && decide (topoTxt (parseT s).1 (parseT s).2 = s))) := Lib.hid rfl
      have HPQ : Hid (ttP s = if ttB s then (parseT s).1 else []) := Lib.hid rfl
      have HNQ : Hid (ttN s = if ttB s then (parseT s).2 else []) := Lib.hid rfl
      rw [hP] at hl1 hl2 T
      clear hP
      generalize parseT s = P at *
      obtain ⟨ps, ns⟩ := P
      dsimp only at hl1 hl2 T HBQ HPQ HNQ
      obtain ⟨A5, c5, B5, d5, h1, h2, h3⟩ := T.out.box.ex
      have hlw := heap_lt h1
      have k0 := bx_cell h1 0 rfl
      have k1 := bx_cell h1 1 rfl
      have kf := bx_frz h1
      simp only [List.getElem_toArray, List.getElem_cons_zero, List.getElem_cons_succ] at k0 k1
      have H1 := Lib.hid h1
      have H2 := Lib.hid h2
      have H3 := Lib.hid h3
      clear h1 h2 h3
      obtain ⟨hnc, hc9⟩ := own_cap H2.out
      unfold maxLen at hc9
      go_wp2_with fail
      refine (topoOk_any A5 B5 ps.length c5 ns.length d5 ps ns _ (by omega) (by omega) (own_rdd' H2.out) (own_rdd' H3.out) (own_blk H2.out) (own_blk H3.out)).mono ?_
      rintro e w1' ⟨rfl, hb1⟩
      have T1 := Lib.hid (T.out.below hb1)
      clear T
      cases hok : topoOkB ps ns
      · have HBF : Hid (ttB s = false) := Lib.hid (by rw [HBQ.out, hok]; rfl)
        have T9 := T1
        clear hok
        have r0 := bx_cell T9.out.res 0 rfl
        have r1 := bx_cell T9.out.res 1 rfl
        have rf := bx_frz T9.out.res
        simp only [List.getElem_toArray, List.getElem_cons_zero, List.getElem_cons_succ] at r0 r1
        go_wp2
        (try go_light)
        refine bodyPost_ret (v := .tuple #[.agg #[.slice none 0 0, .slice none 0 0], .bool false]) (by simp [results, Try.results87, go_sem, *]) rfl ?_
        refine ⟨_, _, by rw [HBF.out], ?_, ?_, ?_⟩
        · rw [(tt_no HBF.out).1]; exact own_nil _ _ _ _
        · rw [(tt_no HBF.out).2]; exact own_nil _ _ _ _
        · exact (T9.out.bel.setCell (Nat.le_refl _) _).setCell (Nat.le_refl _) _
      · have HTX : Hid (topoTextV ps ns = topoTxt ps ns) := Lib.hid (by unfold topoTextV; rw [hok]; rfl)
        have HBF0 : Hid (ttB s = decide (topoTxt ps ns = s)) := Lib.hid (by rw [HBQ.out, hok]; rfl)
        clear hok
        have H1' := Lib.hid (bx_below H1.out hb1)
        have H2' := Lib.hid (own_bel H2.out hb1)
        have H3' := Lib.hid (own_bel H3.out hb1)
        clear k0 k1 kf H1 H2 H3
        have k0 := bx_cell H1'.out 0 rfl
        have k1 := bx_cell H1'.out 1 rfl
        have kf := bx_frz H1'.out
        simp only [List.getElem_toArray, List.getElem_cons_zero, List.getElem_cons_succ] at k0 k1
        go_wp2_with fail
        refine (topoText_any A5 B5 ps.length c5 ns.length d5 ps ns _ (by omega) (by omega) (own_rdd' H2'.out) (own_rdd' H3'.out) (own_blk H2'.out) (own_blk H3'.out) hnc (by omega)).mono ?_
        rintro e w9 ⟨rfl, hb9⟩
        have H1 := Lib.hid (bx_below H1'.out hb9)
        have H2 := Lib.hid (own_bel H2'.out hb9)
        have H3 := Lib.hid (own_bel H3'.out hb9)
        have T9 := Lib.hid (T1.out.below hb9)
        clear k0 k1 kf H1' H2' H3' T1 hb1 hb9
        have k0 := bx_cell H1.out 0 rfl
        have k1 := bx_cell H1.out 1 rfl
        have kf := bx_frz H1.out
        simp only [List.getElem_toArray, List.getElem_cons_zero, List.getElem_cons_succ] at k0 k1
        have r0 := bx_cell T9.out.res 0 rfl
        have r1 := bx_cell T9.out.res 1 rfl
        have rf := bx_frz T9.out.res
        simp only [List.getElem_toArray, List.getElem_cons_zero, List.getElem_cons_succ] at r0 r1
        rw [HTX.out]
        cases hST : decide (topoTxt ps ns = s)
        · have HBF : Hid (ttB s = false) := Lib.hid (by rw [HBF0.out, hST])
          have hq2 := str_ne hST
          clear hST HTX HBF0 HBQ
          generalize topoTxt ps ns = S at *
          go_wp2
          (try go_light)
          refine bodyPost_ret (v := .tuple #[.agg #[.slice none 0 0, .slice none 0 0], .bool false]) (by simp [results, Try.results87, go_sem, *]) rfl ?_
          refine ⟨_, _, by rw [HBF.out], ?_, ?_, ?_⟩
          · rw [(tt_no HBF.out).1]; exact own_nil _ _ _ _
          · rw [(tt_no HBF.out).2]; exact own_nil _ _ _ _
          · exact (T9.out.bel.setCell (Nat.le_refl _) _).setCell (Nat.le_refl _) _
        · have HBF : Hid (ttB s = true) := Lib.hid (by rw [HBF0.out, hST])
          have hq2 := str_eq hST
          clear hST HTX HBF0 HBQ
          generalize topoTxt ps ns = S at *
          go_wp2
          (try go_light)
          refine bodyPost_ret (v := .tuple #[.agg #[.slice A5 ps.length c5, .slice B5 ns.length d5], .bool true]) (by simp [results, Try.results87, go_sem, *]) rfl ?_
          refine ⟨_, _, by rw [HBF.out], ?_, ?_, ?_⟩
          · rw [HPQ.out, HBF.out]
            exact own_mono (own_set (own_set H2.out (fun k hk => by have := own_ge H2.out k hk; show k ≠ w.heap.size; omega) _) (fun k hk => by have := own_ge H2.out k hk; show k ≠ w.heap.size; omega) _) (by omega)
          · rw [HNQ.out, HBF.out]
            exact own_mono (own_set (own_set H3.out (fun k hk => by have := own_ge H3.out k hk; show k ≠ w.heap.size; omega) _) (fun k hk => by have := own_ge H3.out k hk; show k ≠ w.heap.size; omega) _) (by omega)
          · exact (T9.out.bel.setCell (Nat.le_refl _) _).setCell (Nat.le_refl _) _

end Go.Proofs.Ytjnfdcojccgfoaa

/- Contract of TextTopo (reference). -/
namespace Go.Proofs.Ytjnfdcojccgfoaa
set_option linter.unusedSimpArgs false
set_option linter.unusedVariables false
set_option linter.unnecessarySimpa false
open Go.RowKit
def TTS (s : ByteArray) (w wr : World) (S : Value) (M k : Nat) : Prop := (parseN s k).1.length ≤ 25 ∧ (parseN s k).2.length ≤ 25 ∧ TT w wr (w.heap.size + 1) w.heap.size (w.heap.size + 1 + 1) S M ((parts s 10).map Value.string) (parseN s k).1 (parseN s k).2
theorem own_ge9 {w : World} {base : Nat} {e : TypeId} {size n : Nat} {v : Value} {xs : List Value} (h : w.ownsRow base e size v n xs) : ∀ k, v.ownBlock = some k → base ≤ k := own_ge h

set_option maxHeartbeats 16000000 in
set_option maxRecDepth 20000 in
theorem stextTopo_any (s : ByteArray) (w : World) (hs : s.size ≤ 1048576) :
    Calls Try.prog 92 #[.string s] w fun e w' => ∃ u v, e = .returned (.tuple #[.agg #[u, v], .bool (ttB s)]) ∧ w'.ownsRow w.heap.size 3 1 u (ttP s).length (ints (ttP s)) ∧ w'.ownsRow w.heap.size 104 4 v (ttN s).length (flat (ttN s)) ∧ Below w.heap.size w w' := by
  have HS := Lib.hid hs
  have hpl := parts_le9 s 10
  go_enter Try.func92, Try.ntmps92
  go_wp2_with fail
  refine (sparts_any s _ 10 rfl _ HS.out).mono ?_
  rintro e w1 ⟨v1, rfl, own1, hb1⟩
  obtain ⟨A1, c1, rfl, rd1⟩ := own_rd own1
  clear rd1
  have T0 := Lib.hid (TT.start hb1 own1 (by simp <;> omega))
  clear hb1 own1
  generalize hM : (parts s 10).length = M at T0 hpl ⊢
  have HM := Lib.hid hM
  clear hM
  go_wp2
  go_loopw [19] (fun i wr => ∃ k : Nat, k ≤ M ∧ i = .int .i64 k ∧ TTS s w wr (.slice A1 M c1) M k) (fun i _ => M - (intOf i).toNat)
  case atStart => exact ⟨0, Nat.zero_le _, rfl, by show 1 ≤ 25; omega, by show 0 ≤ 25; omega, T0.out⟩
  case round =>
    obtain ⟨k, hk, rfl, HH⟩ := hrel
    obtain ⟨hl1, hl2, T'⟩ := HH
    have T := Lib.hid T'
    clear T'
    by_cases hlt : k < M
    · have hlt' : (k : Int) < M := by omega
      obtain ⟨l, hl⟩ : ∃ l, (parts s 10)[k]? = some l := ⟨_, List.getElem?_eq_getElem (by rw [HM.out]; omega)⟩
      have hls : l.size ≤ s.size := parts_size s 10 l (List.mem_of_getElem? hl)
      have hL := parseN_succ hl
      have hPK : ∃ P, parseN s k = P := ⟨_, rfl⟩
      obtain ⟨⟨ps, ns⟩, hP⟩ := hPK
      rw [hP] at hL hl1 hl2 T
      have HPK := Lib.hid hP
      clear hP
      dsimp only at hl1 hl2 T
      have HL : Hid (parseN s (k + 1) = lineT (ps, ns) l) := Lib.hid hL
      clear hL
      obtain ⟨g, rfl, hc, hgl⟩ := str_at T.out.str hl
      clear hl
      obtain ⟨a, r, hpa⟩ : ∃ a r, parts l 32 = a :: r := by
        cases h : parts l 32 with
        | nil => unfold parts at h; simp at h
        | cons a r => exact ⟨a, r, rfl⟩
      rcases r with _ | ⟨x, _ | ⟨v, _ | ⟨y, r⟩⟩⟩
      · skip
        go_wp2_with fail
        refine (sparts_any l _ 32 rfl _ (by omega)).mono ?_
        rintro e w2 ⟨v2, rfl, own2, hb2⟩
        rw [hpa] at own2
        have own2' : w2.ownsRow _ 9 1 v2 1 (([a] : List ByteArray).map Value.string) := own2
        clear own2
        obtain ⟨A2, c2, rfl, rd2⟩ := own_rd own2'
        clear rd2
        have T2 := Lib.hid (T.out.below hb2)
        clear hb2 hc
        obtain ⟨g2, rfl, q0, hg2⟩ := str_at own2' (k := 0) rfl
        have OW2 := Lib.hid own2'
        clear own2'
        obtain ⟨A5, c5, B5, d5, h1, h2, h3⟩ := T2.out.box.ex
        have hlw := heap_lt h1
        have k0 := bx_cell h1 0 rfl
        have k1 := bx_cell h1 1 rfl
        have kf := bx_frz h1
        simp only [List.getElem_toArray, List.getElem_cons_zero, List.getElem_cons_succ] at k0 k1
        have H1 := Lib.hid h1
        have H2 := Lib.hid h2
        have H3 := Lib.hid h3
        clear h1 h2 h3
        by_cases x1 : 24 < ps.length
        · have x1' : (24 : Int) < ps.length := by omega
          have HBG : Hid (ttB s = false) := Lib.hid (tt_big (k := k) (by rw [HPK.out]; simp only; omega))
          have r0 := bx_cell T2.out.res 0 rfl
          have r1 := bx_cell T2.out.res 1 rfl
          have rf := bx_frz T2.out.res
          simp only [List.getElem_toArray, List.getElem_cons_zero, List.getElem_cons_succ] at r0 r1
          go_wp2
          (try go_light)
          refine bodyPost_ret (v := .tuple #[.agg #[.slice none 0 0, .slice none 0 0], .bool false]) (by simp [results, Try.results92, go_sem, *]) rfl ?_
          refine ⟨_, _, by rw [HBG.out], ?_, ?_, ?_⟩
          · rw [(tt_no HBG.out).1]; exact own_nil _ _ _ _
          · rw [(tt_no HBG.out).2]; exact own_nil _ _ _ _
          · exact (T2.out.bel.setCell (Nat.le_refl _) _).setCell (Nat.le_refl _) _
        have x1' : ¬ (24 : Int) < ps.length := by omega
        by_cases x2 : 24 < ns.length
        · have x2' : (24 : Int) < ns.length := by omega
          have HBG : Hid (ttB s = false) := Lib.hid (tt_big (k := k) (by rw [HPK.out]; simp only; omega))
          have r0 := bx_cell T2.out.res 0 rfl
          have r1 := bx_cell T2.out.res 1 rfl
          have rf := bx_frz T2.out.res
          simp only [List.getElem_toArray, List.getElem_cons_zero, List.getElem_cons_succ] at r0 r1
          go_wp2
          (try go_light)
          refine bodyPost_ret (v := .tuple #[.agg #[.slice none 0 0, .slice none 0 0], .bool false]) (by simp [results, Try.results92, go_sem, *]) rfl ?_
          refine ⟨_, _, by rw [HBG.out], ?_, ?_, ?_⟩
          · rw [(tt_no HBG.out).1]; exact own_nil _ _ _ _
          · rw [(tt_no HBG.out).2]; exact own_nil _ _ _ _
          · exact (T2.out.bel.setCell (Nat.le_refl _) _).setCell (Nat.le_refl _) _
        have x2' : ¬ (24 : Int) < ns.length := by omega
        by_cases ha : a = swW
        · have hb : a ≠ noW := by rw [ha]; decide
          have hs1 : (a.toList == [115, 119, 105, 116, 99, 104]) = true := lit_eq ha
          have hs2 : (a.toList == [110, 111, 100, 101]) = false := lit_ne hb
          have HLT : Hid (parseN s (k + 1) = (ps, ns)) := Lib.hid (by rw [HL.out]; unfold lineT; rw [hpa]; (try (first | (simp only [if_neg ha]; done) | (simp only [if_neg hb]; done))))
          clear ha hb
          go_wp2
          go_roundw
          case rel => exact ⟨k + 1, by omega, by go_num, by rw [HLT.out]; show _ ≤ 25; omega, by rw [HLT.out]; show _ ≤ 25; omega, by rw [HLT.out]; exact T2.out⟩
          case measure => simp [intOf]; omega
        · have hs1 : (a.toList == [115, 119, 105, 116, 99, 104]) = false := lit_ne ha
          by_cases hb : a = noW
          · have hs2 : (a.toList == [110, 111, 100, 101]) = true := lit_eq hb
            have HLT : Hid (parseN s (k + 1) = (ps, ns)) := Lib.hid (by rw [HL.out]; unfold lineT; rw [hpa]; (try (first | (simp only [if_neg ha]; done) | (simp only [if_neg hb]; done))))
            clear ha hb
            go_wp2
            go_roundw
            case rel => exact ⟨k + 1, by omega, by go_num, by rw [HLT.out]; show _ ≤ 25; omega, by rw [HLT.out]; show _ ≤ 25; omega, by rw [HLT.out]; exact T2.out⟩
            case measure => simp [intOf]; omega
          · have hs2 : (a.toList == [110, 111, 100, 101]) = false := lit_ne hb
            have HLT : Hid (parseN s (k + 1) = (ps, ns)) := Lib.hid (by rw [HL.out]; unfold lineT; rw [hpa]; (try (first | (simp only [if_neg ha]; done) | (simp only [if_neg hb]; done))))
            clear ha hb
            go_wp2
            go_roundw
            case rel => exact ⟨k + 1, by omega, by go_num, by rw [HLT.out]; show _ ≤ 25; omega, by rw [HLT.out]; show _ ≤ 25; omega, by rw [HLT.out]; exact T2.out⟩
            case measure => simp [intOf]; omega
      · skip
        go_wp2_with fail
        refine (sparts_any l _ 32 rfl _ (by omega)).mono ?_
        rintro e w2 ⟨v2, rfl, own2, hb2⟩
        rw [hpa] at own2
        have own2' : w2.ownsRow _ 9 1 v2 2 (([a, x] : List ByteArray).map Value.string) := own2
        clear own2
        obtain ⟨A2, c2, rfl, rd2⟩ := own_rd own2'
        clear rd2
        have T2 := Lib.hid (T.out.below hb2)
        clear hb2 hc
        obtain ⟨g2, rfl, q0, hg2⟩ := str_at own2' (k := 0) rfl
        have q1 : w2.cell? ⟨g2, 1, none⟩ = some (.string x) := by
          obtain ⟨g', e, c, _⟩ := str_at own2' (k := 1) rfl
          injection e with e
          injection e with e
          rw [e]; exact c
        have OW2 := Lib.hid own2'
        clear own2'
        obtain ⟨A5, c5, B5, d5, h1, h2, h3⟩ := T2.out.box.ex
        have hlw := heap_lt h1
        have k0 := bx_cell h1 0 rfl
        have k1 := bx_cell h1 1 rfl
        have kf := bx_frz h1
        simp only [List.getElem_toArray, List.getElem_cons_zero, List.getElem_cons_succ] at k0 k1
        have H1 := Lib.hid h1
        have H2 := Lib.hid h2
        have H3 := Lib.hid h3
        clear h1 h2 h3
        by_cases x1 : 24 < ps.length
        · have x1' : (24 : Int) < ps.length := by omega
          have HBG : Hid (ttB s = false) := Lib.hid (tt_big (k := k) (by rw [HPK.out]; simp only; omega))
          have r0 := bx_cell T2.out.res 0 rfl
          have r1 := bx_cell T2.out.res 1 rfl
          have rf := bx_frz T2.out.res
          simp only [List.getElem_toArray, List.getElem_cons_zero, List.getElem_cons_succ] at r0 r1
          go_wp2
          (try go_light)
          refine bodyPost_ret (v := .tuple #[.agg #[.slice none 0 0, .slice none 0 0], .bool false]) (by simp [results, Try.results92, go_sem, *]) rfl ?_
          refine ⟨_, _, by rw [HBG.out], ?_, ?_, ?_⟩
          · rw [(tt_no HBG.out).1]; exact own_nil _ _ _ _
          · rw [(tt_no HBG.out).2]; exact own_nil _ _ _ _
          · exact (T2.out.bel.setCell (Nat.le_refl _) _).setCell (Nat.le_refl _) _
        have x1' : ¬ (24 : Int) < ps.length := by omega
        by_cases x2 : 24 < ns.length
        · have x2' : (24 : Int) < ns.length := by omega
          have HBG : Hid (ttB s = false) := Lib.hid (tt_big (k := k) (by rw [HPK.out]; simp only; omega))
          have r0 := bx_cell T2.out.res 0 rfl
          have r1 := bx_cell T2.out.res 1 rfl
          have rf := bx_frz T2.out.res
          simp only [List.getElem_toArray, List.getElem_cons_zero, List.getElem_cons_succ] at r0 r1
          go_wp2
          (try go_light)
          refine bodyPost_ret (v := .tuple #[.agg #[.slice none 0 0, .slice none 0 0], .bool false]) (by simp [results, Try.results92, go_sem, *]) rfl ?_
          refine ⟨_, _, by rw [HBG.out], ?_, ?_, ?_⟩
          · rw [(tt_no HBG.out).1]; exact own_nil _ _ _ _
          · rw [(tt_no HBG.out).2]; exact own_nil _ _ _ _
          · exact (T2.out.bel.setCell (Nat.le_refl _) _).setCell (Nat.le_refl _) _
        have x2' : ¬ (24 : Int) < ns.length := by omega
        by_cases ha : a = swW
        · have hb : a ≠ noW := by rw [ha]; decide
          have hs1 : (a.toList == [115, 119, 105, 116, 99, 104]) = true := lit_eq ha
          have hs2 : (a.toList == [110, 111, 100, 101]) = false := lit_ne hb
          have HLT : Hid (parseN s (k + 1) = (ps ++ [tnumV x], ns)) := Lib.hid (by rw [HL.out]; unfold lineT; rw [hpa]; simp [ha])
          clear ha hb
          have hxs : x.size ≤ maxLen := by
            have := parts_size l 32 x (by rw [hpa]; simp)
            unfold maxLen; omega
          go_wp2_with fail
          refine (stextNum_any x _ hxs).mono ?_
          rintro e w3 ⟨rfl, hb3⟩
          have hs3 := hb3.size
          (try simp at hs3)
          clear k0 k1 kf H1 H2 H3 hlw x1' x2'
          have T3 := Lib.hid (T2.out.below hb3)
          clear T2
          obtain ⟨A5, c5, B5, d5, h1, h2, h3⟩ := T3.out.box.ex
          have hlw := heap_lt h1
          have k0 := bx_cell h1 0 rfl
          have k1 := bx_cell h1 1 rfl
          have kf := bx_frz h1
          simp only [List.getElem_toArray, List.getElem_cons_zero, List.getElem_cons_succ] at k0 k1
          have H1 := Lib.hid h1
          have H2 := Lib.hid h2
          have H3 := Lib.hid h3
          clear h1 h2 h3
          obtain ⟨i0, hi, hz0, hz1, hz2⟩ := info_parts infoI
          go_wp2_with (at_builtin; refine wpList_append_own _ rfl _ _ 66 rfl (w.heap.size + 1) 3 i0 (.int .i64 0) 1 8 Try.underlying66 hi hz0 hz1 hz2 rfl (by decide) _ _ _ rfl (own_bel H2.out (below_alloc _ _)) ⟨w3.heap.size, 0, none⟩ 1 1 [.int .i64 (tnumV x)] rfl rfl ?c1 ?c2 ?c3 ?c4 ?c5 ?_)
          try case c1 =>
            intro j y hy
            match j, hy with
            | 0, hy => (simp at hy; subst hy; simp [Addr.add])
          try case c2 => simp [Value.oneCell']
          case c3 => unfold maxLen; skip; omega
          case c4 => skip; omega
          try case c5 => first | omega | (simp <;> omega)
          intro v4 w4 own4 hg4 _
          have al := below_alloc w3 (.cells #[.int .i64 (tnumV x)] 3)
          have T4 := Lib.hid (T3.out.below al)
          have T5' := T4.out.put0 (bx_below H1.out al) (own_bel H2.out al) (own_bel H3.out al) own4 hg4
          obtain ⟨A6, c6, rfl, rd6⟩ := own_rd own4
          have e4 := bx_grown (bx_below H1.out al) hg4 (own_ne (own_bel H2.out al) (bx_below H1.out al) (by decide))
          have OW4 := own_grown (own_bel (own_bel OW2.out hb3) al) hg4 (own_ap (own_bel (own_bel OW2.out hb3) al) (own_bel H2.out al) (by decide))
          have OW5 := own_set (a := ⟨w.heap.size + 1 + 1, 0, none⟩) OW4 (own_ne OW4 e4 (by decide)) (.slice A6 (ps.length + 1) c6)
          obtain ⟨g5, eg5, q5, hg5⟩ := str_at OW5 (k := 0) rfl
          injection eg5 with eg5
          injection eg5 with eg5
          subst eg5
          have g0 := bx_cell e4 0 rfl
          have g1 := bx_cell e4 1 rfl
          have gf := bx_frz e4
          simp only [List.getElem_toArray, List.getElem_cons_zero, List.getElem_cons_succ] at g0 g1
          clear rd6 own4 hi hz0 hz1 hz2 k0 k1 kf H1 H2 H3 hg4 e4 OW4 OW5 OW2 hb3 hs3 q0 q1 hg2
          go_upto_region 11 with fail
          obtain ⟨ps', hps'⟩ : ∃ p, p = ps ++ [tnumV x] := ⟨_, rfl⟩
          obtain ⟨ns', hns'⟩ : ∃ p, p = ns := ⟨_, rfl⟩
          have HLT' : Hid (parseN s (k + 1) = (ps', ns')) := Lib.hid (by rw [HLT.out, hps', hns'])
          have hm1 : ps'.length ≤ 25 := by rw [hps']; (try simp); omega
          have hm2 : ns'.length ≤ 25 := by rw [hns']; (try simp); omega
          rw [← hps'] at T5'
          rw [← hns'] at T5'
          have T5 := Lib.hid T5'
          clear T5' hps' hns' HLT
          clear g0 g1 gf
          generalize w4.setCell _ _ = w5 at *
          go_wp2
          go_roundw
          case rel => exact ⟨k + 1, by omega, by go_num, by rw [HLT'.out]; show _ ≤ 25; omega, by rw [HLT'.out]; show _ ≤ 25; omega, by rw [HLT'.out]; exact T5.out⟩
          case measure => simp [intOf]; omega
        · have hs1 : (a.toList == [115, 119, 105, 116, 99, 104]) = false := lit_ne ha
          by_cases hb : a = noW
          · have hs2 : (a.toList == [110, 111, 100, 101]) = true := lit_eq hb
            have HLT : Hid (parseN s (k + 1) = (ps, ns)) := Lib.hid (by rw [HL.out]; unfold lineT; rw [hpa]; (try (first | (simp only [if_neg ha]; done) | (simp only [if_neg hb]; done))))
            clear ha hb
            go_wp2
            go_roundw
            case rel => exact ⟨k + 1, by omega, by go_num, by rw [HLT.out]; show _ ≤ 25; omega, by rw [HLT.out]; show _ ≤ 25; omega, by rw [HLT.out]; exact T2.out⟩
            case measure => simp [intOf]; omega
          · have hs2 : (a.toList == [110, 111, 100, 101]) = false := lit_ne hb
            have HLT : Hid (parseN s (k + 1) = (ps, ns)) := Lib.hid (by rw [HL.out]; unfold lineT; rw [hpa]; (try (first | (simp only [if_neg ha]; done) | (simp only [if_neg hb]; done))))
            clear ha hb
            go_wp2
            go_roundw
            case rel => exact ⟨k + 1, by omega, by go_num, by rw [HLT.out]; show _ ≤ 25; omega, by rw [HLT.out]; show _ ≤ 25; omega, by rw [HLT.out]; exact T2.out⟩
            case measure => simp [intOf]; omega
      · skip
        go_wp2_with fail
        refine (sparts_any l _ 32 rfl _ (by omega)).mono ?_
        rintro e w2 ⟨v2, rfl, own2, hb2⟩
        rw [hpa] at own2
        have own2' : w2.ownsRow _ 9 1 v2 3 (([a, x, v] : List ByteArray).map Value.string) := own2
        clear own2
        obtain ⟨A2, c2, rfl, rd2⟩ := own_rd own2'
        clear rd2
        have T2 := Lib.hid (T.out.below hb2)
        clear hb2 hc
        obtain ⟨g2, rfl, q0, hg2⟩ := str_at own2' (k := 0) rfl
        have q1 : w2.cell? ⟨g2, 1, none⟩ = some (.string x) := by
          obtain ⟨g', e, c, _⟩ := str_at own2' (k := 1) rfl
          injection e with e
          injection e with e
          rw [e]; exact c
        have q2 : w2.cell? ⟨g2, 2, none⟩ = some (.string v) := by
          obtain ⟨g', e, c, _⟩ := str_at own2' (k := 2) rfl
          injection e with e
          injection e with e
          rw [e]; exact c
        have OW2 := Lib.hid own2'
        clear own2'
        obtain ⟨A5, c5, B5, d5, h1, h2, h3⟩ := T2.out.box.ex
        have hlw := heap_lt h1
        have k0 := bx_cell h1 0 rfl
        have k1 := bx_cell h1 1 rfl
        have kf := bx_frz h1
        simp only [List.getElem_toArray, List.getElem_cons_zero, List.getElem_cons_succ] at k0 k1
        have H1 := Lib.hid h1
        have H2 := Lib.hid h2
        have H3 := Lib.hid h3
        clear h1 h2 h3
        by_cases x1 : 24 < ps.length
        · have x1' : (24 : Int) < ps.length := by omega
          have HBG : Hid (ttB s = false) := Lib.hid (tt_big (k := k) (by rw [HPK.out]; simp only; omega))
          have r0 := bx_cell T2.out.res 0 rfl
          have r1 := bx_cell T2.out.res 1 rfl
          have rf := bx_frz T2.out.res
          simp only [List.getElem_toArray, List.getElem_cons_zero, List.getElem_cons_succ] at r0 r1
          go_wp2
          (try go_light)
          refine bodyPost_ret (v := .tuple #[.agg #[.slice none 0 0, .slice none 0 0], .bool false]) (by simp [results, Try.results92, go_sem, *]) rfl ?_
          refine ⟨_, _, by rw [HBG.out], ?_, ?_, ?_⟩
          · rw [(tt_no HBG.out).1]; exact own_nil _ _ _ _
          · rw [(tt_no HBG.out).2]; exact own_nil _ _ _ _
          · exact (T2.out.bel.setCell (Nat.le_refl _) _).setCell (Nat.le_refl _) _
        have x1' : ¬ (24 : Int) < ps.length := by omega
        by_cases x2 : 24 < ns.length
        · have x2' : (24 : Int) < ns.length := by omega
          have HBG : Hid (ttB s = false) := Lib.hid (tt_big (k := k) (by rw [HPK.out]; simp only; omega))
          have r0 := bx_cell T2.out.res 0 rfl
          have r1 := bx_cell T2.out.res 1 rfl
          have rf := bx_frz T2.out.res
          simp only [List.getElem_toArray, List.getElem_cons_zero, List.getElem_cons_succ] at r0 r1
          go_wp2
          (try go_light)
          refine bodyPost_ret (v := .tuple #[.agg #[.slice none 0 0, .slice none 0 0], .bool false]) (by simp [results, Try.results92, go_sem, *]) rfl ?_
          refine ⟨_, _, by rw [HBG.out], ?_, ?_, ?_⟩
          · rw [(tt_no HBG.out).1]; exact own_nil _ _ _ _
          · rw [(tt_no HBG.out).2]; exact own_nil _ _ _ _
          · exact (T2.out.bel.setCell (Nat.le_refl _) _).setCell (Nat.le_refl _) _
        have x2' : ¬ (24 : Int) < ns.length := by omega
        by_cases ha : a = swW
        · have hb : a ≠ noW := by rw [ha]; decide
          have hs1 : (a.toList == [115, 119, 105, 116, 99, 104]) = true := lit_eq ha
          have hs2 : (a.toList == [110, 111, 100, 101]) = false := lit_ne hb
          have HLT : Hid (parseN s (k + 1) = (ps, ns)) := Lib.hid (by rw [HL.out]; unfold lineT; rw [hpa]; (try (first | (simp only [if_neg ha]; done) | (simp only [if_neg hb]; done))))
          clear ha hb
          go_wp2
          go_roundw
          case rel => exact ⟨k + 1, by omega, by go_num, by rw [HLT.out]; show _ ≤ 25; omega, by rw [HLT.out]; show _ ≤ 25; omega, by rw [HLT.out]; exact T2.out⟩
          case measure => simp [intOf]; omega
        · have hs1 : (a.toList == [115, 119, 105, 116, 99, 104]) = false := lit_ne ha
          by_cases hb : a = noW
          · have hs2 : (a.toList == [110, 111, 100, 101]) = true := lit_eq hb
            have HLT : Hid (parseN s (k + 1) = (ps, ns ++ [⟨tnumV x, (tvecV v).A, (tvecV v).B, (tvecV v).C⟩])) := Lib.hid (by rw [HL.out]; unfold lineT; rw [hpa]; simp [hb])
            clear ha hb OW2
            have hxs : x.size ≤ maxLen := by
              have := parts_size l 32 x (by rw [hpa]; simp)
              unfold maxLen; omega
            have hvs : v.size ≤ 1048576 := by
              have := parts_size l 32 v (by rw [hpa]; simp)
              have := HS.out
              omega
            go_wp2_with fail
            refine (stextNum_any x _ hxs).mono ?_
            rintro e w3 ⟨rfl, hb3⟩
            have hs3 := hb3.size
            (try simp at hs3)
            have hy30 : g2 < w3.heap.size := by omega
            have hk30 := fun o => hb3.cell (p := ⟨g2, o, none⟩) (by first | omega | (simp <;> omega))
            have hg30 := fun o => hb3.frozen (p := ⟨g2, o, none⟩) (by first | omega | (simp <;> omega))
            clear k0 k1 kf H1 H2 H3 hlw x1' x2'
            go_wp2_with fail
            refine (stextVec_any v _ hvs).mono ?_
            rintro e w4 ⟨rfl, hb4⟩
            have hs4 := hb4.size
            (try simp at hs4)
            have hy40 : g2 < w4.heap.size := by omega
            have hk40 := fun o => hb4.cell (p := ⟨g2, o, none⟩) (by first | omega | (simp <;> omega))
            have hg40 := fun o => hb4.frozen (p := ⟨g2, o, none⟩) (by first | omega | (simp <;> omega))
            go_upto_region 14 with fail
            have T5 := Lib.hid (T2.out.below (show Below w2.heap.size w2 (w4.alloc (.cells #[.int .i64 ((tvecV v).A), .int .i64 ((tvecV v).B), .int .i64 ((tvecV v).C)] 43)) from (by repeat (first | exact Below.refl _ _ | (with_reducible refine bstep ?_ hb4) | (with_reducible refine bstep ?_ hb3) | (with_reducible refine bstep ?_ (below_alloc _ _))))))
            have e0 : (w4.alloc (.cells #[.int .i64 ((tvecV v).A), .int .i64 ((tvecV v).B), .int .i64 ((tvecV v).C)] 43)).cell? ⟨w4.heap.size, 0, none⟩ = some (.int .i64 ((tvecV v).A)) := by simp [go_sem]
            have e1 : (w4.alloc (.cells #[.int .i64 ((tvecV v).A), .int .i64 ((tvecV v).B), .int .i64 ((tvecV v).C)] 43)).cell? ⟨w4.heap.size, 1, none⟩ = some (.int .i64 ((tvecV v).B)) := by simp [go_sem]
            have e2 : (w4.alloc (.cells #[.int .i64 ((tvecV v).A), .int .i64 ((tvecV v).B), .int .i64 ((tvecV v).C)] 43)).cell? ⟨w4.heap.size, 2, none⟩ = some (.int .i64 ((tvecV v).C)) := by simp [go_sem]
            have hnl : w4.heap.size < (w4.alloc (.cells #[.int .i64 ((tvecV v).A), .int .i64 ((tvecV v).B), .int .i64 ((tvecV v).C)] 43)).heap.size := by simp
            clear hk30 hg30 hk40 hg40 hb3 hb4 T2
            generalize (w4.alloc (.cells #[.int .i64 ((tvecV v).A), .int .i64 ((tvecV v).B), .int .i64 ((tvecV v).C)] 43)) = w5 at *
            clear hs3 hs4 hy30 hy40
            obtain ⟨A5, c5, B5, d5, h1, h2, h3⟩ := T5.out.box.ex
            have hlw := heap_lt h1
            have k0 := bx_cell h1 0 rfl
            have k1 := bx_cell h1 1 rfl
            have kf := bx_frz h1
            simp only [List.getElem_toArray, List.getElem_cons_zero, List.getElem_cons_succ] at k0 k1
            have H1 := Lib.hid h1
            have H2 := Lib.hid h2
            have H3 := Lib.hid h3
            clear h1 h2 h3
            obtain ⟨i0, hi, hz0, hz1, hz2⟩ := info_parts infoN
            go_wp2_with (at_builtin; refine wpList_append_own _ rfl _ _ 78 rfl (w.heap.size + 1) 104 i0 (.agg #[.int .i64 0, .int .i64 0, .int .i64 0, .int .i64 0]) 4 32 Try.underlying78 hi hz0 hz1 hz2 rfl (by decide) _ _ _ rfl (own_bel H3.out (below_alloc _ _)) ⟨w5.heap.size, 0, none⟩ 1 1 [.int .i64 (tnumV x), .int .i64 ((tvecV v).A), .int .i64 ((tvecV v).B), .int .i64 ((tvecV v).C)] rfl rfl ?cn1 ?cn2 ?cn3 ?cn4 ?cn5 ?_)
            try case cn1 =>
              intro j y hy
              match j, hy with
              | 0, hy => (simp at hy; subst hy; simp [Addr.add])
              | 1, hy => (simp at hy; subst hy; simp [Addr.add])
              | 2, hy => (simp at hy; subst hy; simp [Addr.add])
              | 3, hy => (simp at hy; subst hy; simp [Addr.add])
            try case cn2 => simp [Value.oneCell']
            case cn3 => unfold maxLen; skip; omega
            case cn4 => skip; omega
            try case cn5 => first | omega | (simp <;> omega)
            intro v6 w6 own6 hg6 _
            have al := below_alloc w5 (.cells #[.int .i64 (tnumV x), .int .i64 ((tvecV v).A), .int .i64 ((tvecV v).B), .int .i64 ((tvecV v).C)] 104)
            have T6 := Lib.hid (T5.out.below al)
            have T7' := T6.out.put1 (q := ⟨tnumV x, (tvecV v).A, (tvecV v).B, (tvecV v).C⟩) (bx_below H1.out al) (own_bel H2.out al) (own_bel H3.out al) own6 hg6
            obtain ⟨A6, c6, rfl, rd6⟩ := own_rd own6
            have e6 := bx_grown (bx_below H1.out al) hg6 (own_ne (own_bel H3.out al) (bx_below H1.out al) (by decide))
            have g0 := bx_cell e6 0 rfl
            have g1 := bx_cell e6 1 rfl
            have gf := bx_frz e6
            simp only [List.getElem_toArray, List.getElem_cons_zero, List.getElem_cons_succ] at g0 g1
            clear rd6 own6 hi hz0 hz1 hz2 k0 k1 kf H1 H2 H3 hg6 e6 al e0 e1 e2
            go_upto_region 15 with fail
            obtain ⟨ps', hps'⟩ : ∃ p, p = ps := ⟨_, rfl⟩
            obtain ⟨ns', hns'⟩ : ∃ p, p = ns ++ [⟨tnumV x, (tvecV v).A, (tvecV v).B, (tvecV v).C⟩] := ⟨_, rfl⟩
            have HLT' : Hid (parseN s (k + 1) = (ps', ns')) := Lib.hid (by rw [HLT.out, hps', hns'])
            have hm1 : ps'.length ≤ 25 := by rw [hps']; (try simp); omega
            have hm2 : ns'.length ≤ 25 := by rw [hns']; (try simp); omega
            rw [← hps'] at T7'
            rw [← hns'] at T7'
            have T5 := Lib.hid T7'
            clear T7' hps' hns' HLT
            clear g0 g1 gf
            generalize w6.setCell _ _ = w7 at *
            go_wp2
            go_roundw
            case rel => exact ⟨k + 1, by omega, by go_num, by rw [HLT'.out]; show _ ≤ 25; omega, by rw [HLT'.out]; show _ ≤ 25; omega, by rw [HLT'.out]; exact T5.out⟩
            case measure => simp [intOf]; omega
          · have hs2 : (a.toList == [110, 111, 100, 101]) = false := lit_ne hb
            have HLT : Hid (parseN s (k + 1) = (ps, ns)) := Lib.hid (by rw [HL.out]; unfold lineT; rw [hpa]; (try (first | (simp only [if_neg ha]; done) | (simp only [if_neg hb]; done))))
            clear ha hb
            go_wp2
            go_roundw
            case rel => exact ⟨k + 1, by omega, by go_num, by rw [HLT.out]; show _ ≤ 25; omega, by rw [HLT.out]; show _ ≤ 25; omega, by rw [HLT.out]; exact T2.out⟩
            case measure => simp [intOf]; omega
      · skip
        go_wp2_with fail
        refine (sparts_any l _ 32 rfl _ (by omega)).mono ?_
        rintro e w2 ⟨v2, rfl, own2, hb2⟩
        have hN : 4 ≤ (parts l 32).length := by rw [hpa]; simp
        have hq : ((parts l 32).map Value.string)[0]? = some (Value.string a) := by rw [hpa]; rfl
        generalize (parts l 32).length = N at *
        obtain ⟨A2, c2, rfl, rd2⟩ := own_rd own2
        have T2 := Lib.hid (T.out.below hb2)
        clear hb2 hc
        obtain ⟨g2, u2, rfl, hu2, q0⟩ := rd2.at_ (k := 0) (by omega)
        rw [hq] at hu2
        obtain rfl := Option.some.inj hu2
        have hg2 := own_blk own2 g2 rfl
        clear rd2 own2 hq hu2
        have h4c : (0 : Int) < N := by omega
        have h4d : 0 < N := by omega
        have h4a : ¬ ((N : Int) = 2) := by omega
        have h4b : ¬ ((N : Int) = 3) := by omega
        obtain ⟨A5, c5, B5, d5, h1, h2, h3⟩ := T2.out.box.ex
        have hlw := heap_lt h1
        have k0 := bx_cell h1 0 rfl
        have k1 := bx_cell h1 1 rfl
        have kf := bx_frz h1
        simp only [List.getElem_toArray, List.getElem_cons_zero, List.getElem_cons_succ] at k0 k1
        have H1 := Lib.hid h1
        have H2 := Lib.hid h2
        have H3 := Lib.hid h3
        clear h1 h2 h3
        by_cases x1 : 24 < ps.length
        · have x1' : (24 : Int) < ps.length := by omega
          have HBG : Hid (ttB s = false) := Lib.hid (tt_big (k := k) (by rw [HPK.out]; simp only; omega))
          have r0 := bx_cell T2.out.res 0 rfl
          have r1 := bx_cell T2.out.res 1 rfl
          have rf := bx_frz T2.out.res
          simp only [List.getElem_toArray, List.getElem_cons_zero, List.getElem_cons_succ] at r0 r1
          go_wp2
          (try go_light)
          refine bodyPost_ret (v := .tuple #[.agg #[.slice none 0 0, .slice none 0 0], .bool false]) (by simp [results, Try.results92, go_sem, *]) rfl ?_
          refine ⟨_, _, by rw [HBG.out], ?_, ?_, ?_⟩
          · rw [(tt_no HBG.out).1]; exact own_nil _ _ _ _
          · rw [(tt_no HBG.out).2]; exact own_nil _ _ _ _
          · exact (T2.out.bel.setCell (Nat.le_refl _) _).setCell (Nat.le_refl _) _
        have x1' : ¬ (24 : Int) < ps.length := by omega
        by_cases x2 : 24 < ns.length
        · have x2' : (24 : Int) < ns.length := by omega
          have HBG : Hid (ttB s = false) := Lib.hid (tt_big (k := k) (by rw [HPK.out]; simp only; omega))
          have r0 := bx_cell T2.out.res 0 rfl
          have r1 := bx_cell T2.out.res 1 rfl
          have rf := bx_frz T2.out.res
          simp only [List.getElem_toArray, List.getElem_cons_zero, List.getElem_cons_succ] at r0 r1
          go_wp2
          (try go_light)
          refine bodyPost_ret (v := .tuple #[.agg #[.slice none 0 0, .slice none 0 0], .bool false]) (by simp [results, Try.results92, go_sem, *]) rfl ?_
          refine ⟨_, _, by rw [HBG.out], ?_, ?_, ?_⟩
          · rw [(tt_no HBG.out).1]; exact own_nil _ _ _ _
          · rw [(tt_no HBG.out).2]; exact own_nil _ _ _ _
          · exact (T2.out.bel.setCell (Nat.le_refl _) _).setCell (Nat.le_refl _) _
        have x2' : ¬ (24 : Int) < ns.length := by omega
        by_cases ha : a = swW
        · have hb : a ≠ noW := by rw [ha]; decide
          have hs1 : (a.toList == [115, 119, 105, 116, 99, 104]) = true := lit_eq ha
          have hs2 : (a.toList == [110, 111, 100, 101]) = false := lit_ne hb
          have HLT : Hid (parseN s (k + 1) = (ps, ns)) := Lib.hid (by rw [HL.out]; unfold lineT; rw [hpa]; (try (first | (simp only [if_neg ha]; done) | (simp only [if_neg hb]; done))))
          clear ha hb
          go_wp2
          go_roundw
          case rel => exact ⟨k + 1, by omega, by go_num, by rw [HLT.out]; show _ ≤ 25; omega, by rw [HLT.out]; show _ ≤ 25; omega, by rw [HLT.out]; exact T2.out⟩
          case measure => simp [intOf]; omega
        · have hs1 : (a.toList == [115, 119, 105, 116, 99, 104]) = false := lit_ne ha
          by_cases hb : a = noW
          · have hs2 : (a.toList == [110, 111, 100, 101]) = true := lit_eq hb
            have HLT : Hid (parseN s (k + 1) = (ps, ns)) := Lib.hid (by rw [HL.out]; unfold lineT; rw [hpa]; (try (first | (simp only [if_neg ha]; done) | (simp only [if_neg hb]; done))))
            clear ha hb
            go_wp2
            go_roundw
            case rel => exact ⟨k + 1, by omega, by go_num, by rw [HLT.out]; show _ ≤ 25; omega, by rw [HLT.out]; show _ ≤ 25; omega, by rw [HLT.out]; exact T2.out⟩
            case measure => simp [intOf]; omega
          · have hs2 : (a.toList == [110, 111, 100, 101]) = false := lit_ne hb
            have HLT : Hid (parseN s (k + 1) = (ps, ns)) := Lib.hid (by rw [HL.out]; unfold lineT; rw [hpa]; (try (first | (simp only [if_neg ha]; done) | (simp only [if_neg hb]; done))))
            clear ha hb
            go_wp2
            go_roundw
            case rel => exact ⟨k + 1, by omega, by go_num, by rw [HLT.out]; show _ ≤ 25; omega, by rw [HLT.out]; show _ ≤ 25; omega, by rw [HLT.out]; exact T2.out⟩
            case measure => simp [intOf]; omega
    · skip
      have hk9 : k = M := by omega
      have hlt' : ¬ (k : Int) < M := by omega
      have hP : parseN s k = parseT s := by rw [hk9, ← HM.out]; rfl
      have HBQ : Hid (ttB s = (topoOkB (parseT s).1 (parseT s).2 && decide (topoTxt (parseT s).1 (parseT s).2 = s))) := Lib.hid rfl
      have HPQ : Hid (ttP s = if ttB s then (parseT s).1 else []) := Lib.hid rfl
      have HNQ : Hid (ttN s = if ttB s then (parseT s).2 else []) := Lib.hid rfl
      rw [hP] at hl1 hl2 T
      clear hP
      generalize parseT s = P at *
      obtain ⟨ps, ns⟩ := P
      dsimp only at hl1 hl2 T HBQ HPQ HNQ
      obtain ⟨A5, c5, B5, d5, h1, h2, h3⟩ := T.out.box.ex
      have hlw := heap_lt h1
      have k0 := bx_cell h1 0 rfl
      have k1 := bx_cell h1 1 rfl
      have kf := bx_frz h1
      simp only [List.getElem_toArray, List.getElem_cons_zero, List.getElem_cons_succ] at k0 k1
      have H1 := Lib.hid h1
      have H2 := Lib.hid h2
      have H3 := Lib.hid h3
      clear h1 h2 h3
      obtain ⟨hnc, hc9⟩ := own_cap H2.out
      unfold maxLen at hc9
      go_wp2_with fail
      refine (stopoOk_any A5 B5 ps.length c5 ns.length d5 ps ns _ (by omega) (by omega) (own_rdd' H2.out) (own_rdd' H3.out) (own_blk H2.out) (own_blk H3.out)).mono ?_
      rintro e w1' ⟨rfl, hb1⟩
      have T1 := Lib.hid (T.out.below hb1)
      clear T
      cases hok : topoOkB ps ns
      · have HBF : Hid (ttB s = false) := Lib.hid (by rw [HBQ.out, hok]; rfl)
        have T9 := T1
        clear hok
        have r0 := bx_cell T9.out.res 0 rfl
        have r1 := bx_cell T9.out.res 1 rfl
        have rf := bx_frz T9.out.res
        simp only [List.getElem_toArray, List.getElem_cons_zero, List.getElem_cons_succ] at r0 r1
        go_wp2
        (try go_light)
        refine bodyPost_ret (v := .tuple #[.agg #[.slice none 0 0, .slice none 0 0], .bool false]) (by simp [results, Try.results92, go_sem, *]) rfl ?_
        refine ⟨_, _, by rw [HBF.out], ?_, ?_, ?_⟩
        · rw [(tt_no HBF.out).1]; exact own_nil _ _ _ _
        · rw [(tt_no HBF.out).2]; exact own_nil _ _ _ _
        · exact (T9.out.bel.setCell (Nat.le_refl _) _).setCell (Nat.le_refl _) _
      · have HTX : Hid (topoTextV ps ns = topoTxt ps ns) := Lib.hid (by unfold topoTextV; rw [hok]; rfl)
        have HBF0 : Hid (ttB s = decide (topoTxt ps ns = s)) := Lib.hid (by rw [HBQ.out, hok]; rfl)
        clear hok
        have H1' := Lib.hid (bx_below H1.out hb1)
        have H2' := Lib.hid (own_bel H2.out hb1)
        have H3' := Lib.hid (own_bel H3.out hb1)
        clear k0 k1 kf H1 H2 H3
        have k0 := bx_cell H1'.out 0 rfl
        have k1 := bx_cell H1'.out 1 rfl
        have kf := bx_frz H1'.out
        simp only [List.getElem_toArray, List.getElem_cons_zero, List.getElem_cons_succ] at k0 k1
        go_wp2_with fail
        refine (stopoText_any A5 B5 ps.length c5 ns.length d5 ps ns _ (by omega) (by omega) (own_rdd' H2'.out) (own_rdd' H3'.out) (own_blk H2'.out) (own_blk H3'.out)).mono ?_
        rintro e w9 ⟨rfl, hb9⟩
        have H1 := Lib.hid (bx_below H1'.out hb9)
        have H2 := Lib.hid (own_bel H2'.out hb9)
        have H3 := Lib.hid (own_bel H3'.out hb9)
        have T9 := Lib.hid (T1.out.below hb9)
        clear k0 k1 kf H1' H2' H3' T1 hb1 hb9
        have k0 := bx_cell H1.out 0 rfl
        have k1 := bx_cell H1.out 1 rfl
        have kf := bx_frz H1.out
        simp only [List.getElem_toArray, List.getElem_cons_zero, List.getElem_cons_succ] at k0 k1
        have r0 := bx_cell T9.out.res 0 rfl
        have r1 := bx_cell T9.out.res 1 rfl
        have rf := bx_frz T9.out.res
        simp only [List.getElem_toArray, List.getElem_cons_zero, List.getElem_cons_succ] at r0 r1
        rw [HTX.out]
        cases hST : decide (topoTxt ps ns = s)
        · have HBF : Hid (ttB s = false) := Lib.hid (by rw [HBF0.out, hST])
          have hq2 := str_ne hST
          clear hST HTX HBF0 HBQ
          generalize topoTxt ps ns = S at *
          go_wp2
          (try go_light)
          refine bodyPost_ret (v := .tuple #[.agg #[.slice none 0 0, .slice none 0 0], .bool false]) (by simp [results, Try.results92, go_sem, *]) rfl ?_
          refine ⟨_, _, by rw [HBF.out], ?_, ?_, ?_⟩
          · rw [(tt_no HBF.out).1]; exact own_nil _ _ _ _
          · rw [(tt_no HBF.out).2]; exact own_nil _ _ _ _
          · exact (T9.out.bel.setCell (Nat.le_refl _) _).setCell (Nat.le_refl _) _
        · have HBF : Hid (ttB s = true) := Lib.hid (by rw [HBF0.out, hST])
          have hq2 := str_eq hST
          clear hST HTX HBF0 HBQ
          generalize topoTxt ps ns = S at *
          go_wp2
          (try go_light)
          refine bodyPost_ret (v := .tuple #[.agg #[.slice A5 ps.length c5, .slice B5 ns.length d5], .bool true]) (by simp [results, Try.results92, go_sem, *]) rfl ?_
          refine ⟨_, _, by rw [HBF.out], ?_, ?_, ?_⟩
          · rw [HPQ.out, HBF.out]
            exact own_mono (own_set (own_set H2.out (fun k hk => by have := own_ge H2.out k hk; show k ≠ w.heap.size; omega) _) (fun k hk => by have := own_ge H2.out k hk; show k ≠ w.heap.size; omega) _) (by omega)
          · rw [HNQ.out, HBF.out]
            exact own_mono (own_set (own_set H3.out (fun k hk => by have := own_ge H3.out k hk; show k ≠ w.heap.size; omega) _) (fun k hk => by have := own_ge H3.out k hk; show k ≠ w.heap.size; omega) _) (by omega)
          · exact (T9.out.bel.setCell (Nat.le_refl _) _).setCell (Nat.le_refl _) _

end Go.Proofs.Ytjnfdcojccgfoaa
