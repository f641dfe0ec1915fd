/-
  Layer 4: StepNear, the walk: the law answers true. Conditions: the registers are of 64 bits, how far it goes is of eight.
-/
import Derived.Test.YtjlfjkpbooholaaDoorLe1
import Derived.Test.YtjlfjkpbooholaaDoorLe2
import Derived.Test.YtjlfjkpbooholaaDoorLe3
import Derived.Test.YtjlfjkpbooholaaDoorLe4
import Derived.Test.YtjlfjkpbooholaaDoorLe5
import Derived.Test.YtjlfjkpbooholaaDoorLe6
import Derived.Test.YtjlfjkpbooholaaDoorPl4
import Derived.Test.YtjlfjkpbooholaaDoorNum
import Derived.Deep.RegionWith
import Derived.Deep.QuietTactic
import Derived.BigQuiet
import Derived.StillTailTactics
namespace Go.Proofs.YtjlfjkpbooholaaDoor.M
open Go.RowKit Go.Proofs.YtjlfjkpbooholaaDoorW.PrintWords Go.Proofs.YtjlfjkpbooholaaDoorW.PrintLast
set_option linter.unusedSimpArgs false
set_option linter.unusedVariables false
theorem wf_i8 {a : Int} (h : (Lit.int .i8 a).wf = true) : -128 ≤ a ∧ a < 128 := by
  simp [Lit.wf, IntKind.min, IntKind.max, IntKind.signed, IntKind.bits] at h; omega
theorem rem3 (x : Int) (h : 0 ≤ x) : x.tmod 3 = 0 ∨ x.tmod 3 = 1 ∨ x.tmod 3 = 2 := by
  rw [Int.tmod_eq_emod_of_nonneg h]
  omega
set_option maxRecDepth 100000 in
theorem stepNear_c (c : Cpu) (ok : c.Ok) (which a n : Int) (hn : -128 ≤ n ∧ n < 128) (hw0 : -9223372036854775808 ≤ which) (hw1 : which < 9223372036854775808) (w : World) (hG : Glob w) : Calls Tryd.prog 7 #[.agg #[i64 c.r0, i64 c.r1, i64 c.r2, i64 c.r3, i64 c.r4, i64 c.r5, i64 c.r6, i64 c.r7, i64 c.pc, i64 c.st, i64 c.tr, i64 which, i64 a, .int .i8 n]] w fun e w' => e = .returned (.bool true) ∧ Below w.heap.size w w' := by
  have hnw : wrap64 n = n := Num.wrap64_id (by omega) (by omega)
  have hnw2 : IntKind.i64.wrap n = n := by rw [Num.wrap_i64]; exact hnw
  by_cases hs : which < 0
  case pos =>
    have hd : decide (which < 0) = true := decide_eq_true hs
    rcases rem3 (-(which + 1)) (by omega) with hv | hv | hv
    · have s1 := fun W h => start_c c ok 20 0 0 n 6 W h
      have s2 := fun W h => start_c c ok 25 0 0 n 6 W h
      rw [← near_law c 0 n 25 20 (by omega)] at s2
      generalize startF c 20 0 0 n 6 = p at s1 s2
      obtain ⟨⟨d0, d1, d2, d3, d4, d5, d6, d7, dp, ds, dt⟩, ⟨q0, q1, q2, q3⟩⟩ := p
      obtain ⟨r0, r1, r2, r3, r4, r5, r6, r7, pc, st, tr⟩ := c
      dsimp only
      dsimp only at s1 s2
      exact near_pos0 (hnw := hnw) (hnw2 := hnw2) (hm1 := Num.wrap64_id (by omega) (by omega)) (hm2 := Num.wrap64_id (by omega) (by omega)) (hd := hd) (hv := hv) (s1 := s1) (s2 := s2) (w := w) (hG := hG)
    · have s1 := fun W h => start_c c ok 21 a 0 n 6 W h
      have s2 := fun W h => start_c c ok 26 a 0 n 6 W h
      rw [← near_law c a n 26 21 (by omega)] at s2
      generalize startF c 21 a 0 n 6 = p at s1 s2
      obtain ⟨⟨d0, d1, d2, d3, d4, d5, d6, d7, dp, ds, dt⟩, ⟨q0, q1, q2, q3⟩⟩ := p
      obtain ⟨r0, r1, r2, r3, r4, r5, r6, r7, pc, st, tr⟩ := c
      dsimp only
      dsimp only at s1 s2
      exact near_pos1 (hnw := hnw) (hnw2 := hnw2) (hm1 := Num.wrap64_id (by omega) (by omega)) (hm2 := Num.wrap64_id (by omega) (by omega)) (hd := hd) (hv := hv) (s1 := s1) (s2 := s2) (w := w) (hG := hG)
    · have s1 := fun W h => start_c c ok 22 a 0 n 6 W h
      have s2 := fun W h => start_c c ok 27 a 0 n 6 W h
      rw [← near_law c a n 27 22 (by omega)] at s2
      generalize startF c 22 a 0 n 6 = p at s1 s2
      obtain ⟨⟨d0, d1, d2, d3, d4, d5, d6, d7, dp, ds, dt⟩, ⟨q0, q1, q2, q3⟩⟩ := p
      obtain ⟨r0, r1, r2, r3, r4, r5, r6, r7, pc, st, tr⟩ := c
      dsimp only
      dsimp only at s1 s2
      exact near_pos2 (hnw := hnw) (hnw2 := hnw2) (hm1 := Num.wrap64_id (by omega) (by omega)) (hm2 := Num.wrap64_id (by omega) (by omega)) (hd := hd) (hv := hv) (s1 := s1) (s2 := s2) (w := w) (hG := hG)
  case neg =>
    have hd : decide (which < 0) = false := decide_eq_false hs
    rcases rem3 which (by omega) with hv | hv | hv
    · have s1 := fun W h => start_c c ok 20 0 0 n 6 W h
      have s2 := fun W h => start_c c ok 25 0 0 n 6 W h
      rw [← near_law c 0 n 25 20 (by omega)] at s2
      generalize startF c 20 0 0 n 6 = p at s1 s2
      obtain ⟨⟨d0, d1, d2, d3, d4, d5, d6, d7, dp, ds, dt⟩, ⟨q0, q1, q2, q3⟩⟩ := p
      obtain ⟨r0, r1, r2, r3, r4, r5, r6, r7, pc, st, tr⟩ := c
      dsimp only
      dsimp only at s1 s2
      exact near_neg0 (hnw := hnw) (hnw2 := hnw2) (hw0 := hw0) (hw1 := hw1) (hd := hd) (hv := hv) (s1 := s1) (s2 := s2) (w := w) (hG := hG)
    · have s1 := fun W h => start_c c ok 21 a 0 n 6 W h
      have s2 := fun W h => start_c c ok 26 a 0 n 6 W h
      rw [← near_law c a n 26 21 (by omega)] at s2
      generalize startF c 21 a 0 n 6 = p at s1 s2
      obtain ⟨⟨d0, d1, d2, d3, d4, d5, d6, d7, dp, ds, dt⟩, ⟨q0, q1, q2, q3⟩⟩ := p
      obtain ⟨r0, r1, r2, r3, r4, r5, r6, r7, pc, st, tr⟩ := c
      dsimp only
      dsimp only at s1 s2
      exact near_neg1 (hnw := hnw) (hnw2 := hnw2) (hw0 := hw0) (hw1 := hw1) (hd := hd) (hv := hv) (s1 := s1) (s2 := s2) (w := w) (hG := hG)
    · have s1 := fun W h => start_c c ok 22 a 0 n 6 W h
      have s2 := fun W h => start_c c ok 27 a 0 n 6 W h
      rw [← near_law c a n 27 22 (by omega)] at s2
      generalize startF c 22 a 0 n 6 = p at s1 s2
      obtain ⟨⟨d0, d1, d2, d3, d4, d5, d6, d7, dp, ds, dt⟩, ⟨q0, q1, q2, q3⟩⟩ := p
      obtain ⟨r0, r1, r2, r3, r4, r5, r6, r7, pc, st, tr⟩ := c
      dsimp only
      dsimp only at s1 s2
      exact near_neg2 (hnw := hnw) (hnw2 := hnw2) (hw0 := hw0) (hw1 := hw1) (hd := hd) (hv := hv) (s1 := s1) (s2 := s2) (w := w) (hG := hG)
end Go.Proofs.YtjlfjkpbooholaaDoor.M
