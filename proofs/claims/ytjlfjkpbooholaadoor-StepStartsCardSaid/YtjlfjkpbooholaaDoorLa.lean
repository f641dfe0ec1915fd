/-
  Layer 4: StepStarts, the walk: the law answers true. Condition: the registers are of 64 bits.
-/
import Derived.Test.YtjlfjkpbooholaaDoorLive
import Derived.Test.YtjlfjkpbooholaaDoorRt
import Derived.Test.YtjlfjkpbooholaaDoorEq4
import Derived.Deep.RegionWith
import Derived.Deep.QuietTactic
import Derived.BigQuiet
import Derived.StillTailTactics
namespace Go.Proofs.YtjlfjkpbooholaaDoor.M
open Go.RowKit Go.Proofs.YtjlfjkpbooholaaDoorW.PrintWords Go.Proofs.YtjlfjkpbooholaaDoorW.PrintLast
set_option linter.unusedSimpArgs false
set_option linter.unusedVariables false
attribute [local go_sem] min_ints max_ints setCell_drewN alloc_drewN
attribute [local go_sem] eq_regs
set_option maxRecDepth 100000 in
set_option maxHeartbeats 8000000 in
theorem stepStarts_c (c : Cpu) (ok : c.Ok) (op a b n size : Int) (w : World) (hG : Glob w) : Calls Tryd.prog 3 #[c.v, ins op a b n, i64 size] w fun e w' => e = .returned (.bool true) ∧ Below w.heap.size w w' := by
  have s1 := fun W h => start_c c ok op a b n size W h
  have s2 := fun W => rstart_c c ok op a b n size W
  generalize startF c op a b n size = p at s1 s2
  obtain ⟨⟨d0, d1, d2, d3, d4, d5, d6, d7, dp, ds, dt⟩, ⟨q0, q1, q2, q3⟩⟩ := p
  obtain ⟨r0, r1, r2, r3, r4, r5, r6, r7, pc, st, tr⟩ := c
  have S1 := fun W => Aside0.mk (s1 W)
  have S2 := fun W => Aside0.mk (s2 W)
  have HG := Aside0.mk hG
  clear hG s1 s2
  go_enter Tryd.func3, Tryd.ntmps3
  have T1 := Aside0.mk trivial; have T2 := Aside0.mk trivial; have T3 := Aside0.mk trivial; go_wp2_with (first | (go_at_call 9; clear T1; (with_reducible refine ((S1 _).out (HG.out.below (by (repeat (first | (with_reducible first |  apply below_alloc | apply pw_below_drewN | apply below_drew1) | exact Below.refl _ _))) rfl)).mono ?_); rintro e w1 ⟨rfl, hb1⟩; have HB1 := Aside0.mk (below_over (by (repeat (first | (with_reducible first |  apply below_alloc | apply pw_below_drewN | apply below_drew1) | exact Below.refl _ _))) hb1); have hz1_0 : w.heap.size < w1.heap.size := (by have h_ := hb1.size; simp at h_; omega); have hz1_1 : w.heap.size + 1 < w1.heap.size := (by have h_ := hb1.size; simp at h_; omega); obtain ⟨hc1, hf1⟩ := bcell hb1; clear hb1) | (go_at_call 10; clear T2; (with_reducible refine ((S2 _).out).mono ?_); rintro e w2 ⟨rfl, hb2⟩; have HB2 := Aside0.mk (below_over (by (repeat (first | (with_reducible first | exact HB1.out |  apply below_alloc | apply pw_below_drewN | apply below_drew1) | exact Below.refl _ _))) hb2); have hz2_0 : w.heap.size < w2.heap.size := (by have h_ := hb2.size; simp at h_; omega); have hz2_1 : w.heap.size + 1 < w2.heap.size := (by have h_ := hb2.size; simp at h_; omega); have hz2_2 : w1.heap.size < w2.heap.size := (by have h_ := hb2.size; simp at h_; omega); have hz2_3 : w1.heap.size + 1 < w2.heap.size := (by have h_ := hb2.size; simp at h_; omega); obtain ⟨hc2, hf2⟩ := bcell hb2; clear hb2) | (go_at_call 11; clear T3; (with_reducible refine (live_c _ (HG.out.below (by (repeat (first | (with_reducible first | exact HB2.out | exact HB1.out |  apply below_alloc | apply pw_below_drewN | apply below_drew1) | exact Below.refl _ _))) rfl)).mono ?_); rintro e w3 ⟨rfl, hb3⟩; have HB3 := Aside0.mk (below_over (by (repeat (first | (with_reducible first | exact HB2.out | exact HB1.out |  apply below_alloc | apply pw_below_drewN | apply below_drew1) | exact Below.refl _ _))) hb3); clear hb3))
  go_ret
  exact ⟨rfl, (by (repeat (first | (with_reducible first | exact HB3.out | exact HB2.out | exact HB1.out |  apply below_alloc | apply pw_below_drewN | apply below_drew1) | exact Below.refl _ _)))⟩
end Go.Proofs.YtjlfjkpbooholaaDoor.M
