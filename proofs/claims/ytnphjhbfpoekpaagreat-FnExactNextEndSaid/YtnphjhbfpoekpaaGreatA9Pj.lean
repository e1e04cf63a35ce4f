import Derived.Test.YtnphjhbfpoekpaaGreatA6Pj
import Derived.Test.YtnphjhbfpoekpaaGreatA3Pj
import Derived.Test.YtnphjhbfpoekpaaGreatA2Pj
namespace Go.Proofs.YtnphjhbfpoekpaaGreat
set_option linter.unusedSimpArgs false
set_option linter.unusedVariables false
set_option linter.unnecessarySimpa false
open Go.RowKit
set_option maxHeartbeats 2000000 in
theorem level_any (A B : Option Addr) (n c m d : Nat) (ps : List Int) (s : Nat) (w : World) (hn : n ≤ 1048576) (h1 : 1 ≤ n) (hr : Rd w A n 1 (ints ps)) (hl : ∀ g, A = some ⟨g, 0, none⟩ → g < w.heap.size) (hok : parOk ps) (hev : evenB ps = true) (hs : s < n) :
  Calls Tryz.prog 91 #[.agg #[.slice A n c, .slice B m d], .int .i64 s] w fun e w' => e = .returned (.int .i64 (lev ps s)) ∧ Below w.heap.size w w' := by
 have hpl := hr.ilen
 have hlv := lev_height hok (by omega) hev (s := s) (by omega)
 rw [hpl] at hlv
 have hd1 := dep_le hok (n - 1) (by omega)
 have hd2 := dep_le hok s (by omega)
 have hw1 : -9223372036854775808 ≤ (dep ps (n - 1) : Int) - dep ps s := by omega
 have hw2 : (dep ps (n - 1) : Int) - dep ps s ≤ 9223372036854775807 := by omega
 have hwr : IntKind.i64.wrap ((dep ps (n - 1) : Int) - dep ps s) = (dep ps (n - 1) : Int) - dep ps s := IntWalk.i64_in _ ⟨hw1, hw2⟩
 have HN := Lib.hid hn
 have HR := Lib.hid hr
 have HL := Lib.hid hl
 have HO := Lib.hid hok
 have HV := Lib.hid hlv.1
 clear hn hr hl hok hev hpl hlv hd1 hd2
 go_enter Tryz.func91, Tryz.ntmps91
 go_wp2
 refine wp_region_below (by kernel_rfl) (by kernel_rfl) (fun W hW => ?_)
 have W0 : W.cell? ⟨w.heap.size, 0, none⟩ = some (.slice A n c) := by rw [hW]; simp [go_sem]
 have WS : w.heap.size < W.heap.size := by rw [hW]; simp
 have WB : Below w.heap.size w W := by rw [hW]; exact (zAa _ _).drew
 have RDW := Lib.hid (HR.out.below HL.out WB)
 have HLW := Lib.hid (zAi HL.out WB)
 have HWB := Lib.hid WB
 clear hW WB
 ((try dsimp only); repeat (first | (refine Det0.skip ?_ ?_; (focus (rfl; done)); (try simp only [putA, zgd, zgf, zge])) | (refine Det0.pure ?_ ?_ ?_ ?_; rotate_left; (focus (rfl; done)); (focus ((intro w9 hJ); (have hk0 := fun o => hJ.cell (p := ⟨w.heap.size, o, none⟩) WS); go_simp; (first | with_reducible rfl | exact eq_if3 | exact neq_if3 | skip); done)); (try simp only [putA, zgd, zgf, zge])) | (refine Det0.step ?_ ?_ ?_ ?_; rotate_left; (focus (rfl; done)); (focus ((intro w9 K hJ hK); (have hk0 := fun o => hJ.cell (p := ⟨w.heap.size, o, none⟩) WS); go_simp; (first | (go_at_call 165; refine (height_any A n c ps _ HN.out h1 (RDW.out.below HLW.out hJ) HO.out).mono ?_; rintro e w1 ⟨rfl, rfl⟩; exact hK.out _ hJ) | (go_at_call 166; refine (depth_any A n c ps s _ HN.out (RDW.out.below HLW.out hJ) HO.out hs).mono ?_; rintro e w1 ⟨rfl, rfl⟩; exact hK.out _ hJ)); done)); (try simp only [putA, zgd, zgf, zge]))))
 refine Det0.nil (fun w9 hJ => ?_)
 go_wp2
 go_ret
 exact ⟨ret_int HV.out.symm, zAc HWB.out hJ⟩
end Go.Proofs.YtnphjhbfpoekpaaGreat
