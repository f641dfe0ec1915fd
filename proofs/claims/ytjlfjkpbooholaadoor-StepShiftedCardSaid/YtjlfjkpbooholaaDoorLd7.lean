/-
  Layer 4: StepShifted, the walk in some cases. Conditions: the cases' own.
-/
import Derived.Test.YtjlfjkpbooholaaDoorLive
import Derived.Test.YtjlfjkpbooholaaDoorEq4
import Derived.Deep.RegionWith
import Derived.Deep.QuietTactic
import Derived.BigQuiet
import Derived.StillTailTactics
namespace Go.Proofs.YtjlfjkpbooholaaDoor.M
open Go.RowKit Go.Proofs.YtjlfjkpbooholaaDoorW.PrintWords Go.Proofs.YtjlfjkpbooholaaDoorW.PrintLast
set_option linter.unusedSimpArgs false
set_option linter.unusedVariables false
attribute [local go_sem] min_ints max_ints setCell_drewN alloc_drewN
attribute [local go_sem] eq_regs
set_option maxRecDepth 100000 in
set_option maxHeartbeats 8000000 in
theorem shf_pn {a b d0 d1 d2 d3 d4 d5 d6 d7 dp dt ep n op pc q0 q1 q2 q3 r0 r1 r2 r3 r4 r5 r6 r7 size st tr y : Int} (hyw : wrap64 y = y) (h0 : decide (pc < 0) = false) (h1 : decide (pc > 1099511627776) = false) (h2 : (op != 24) = true) (h3 : wrap64 (ep - dp) = y) (h4 : (op == 23) = false)
    (s1 : ∀ W, Glob W → Calls Tryd.prog 9 #[(⟨r0, r1, r2, r3, r4, r5, r6, r7, pc, st, tr⟩ : Cpu).v, ins op a b n, i64 size] W fun e w' => e = .returned (.tuple #[(⟨d0, d1, d2, d3, d4, d5, d6, d7, dp, 0, dt⟩ : Cpu).v, (⟨q0, q1, q2, q3⟩ : Rq).v]) ∧ Below W.heap.size W w')
    (s2 : ∀ W, Glob W → Calls Tryd.prog 9 #[(⟨r0, r1, r2, r3, r4, r5, r6, r7, wrap64 (pc + y), st, tr⟩ : Cpu).v, ins op a b n, i64 size] W fun e w' => e = .returned (.tuple #[(⟨d0, d1, d2, d3, d4, d5, d6, d7, ep, 0, dt⟩ : Cpu).v, (⟨q0, q1, q2, q3⟩ : Rq).v]) ∧ Below W.heap.size W w')
    (w : World) (hG : Glob w) : Calls Tryd.prog 6 #[.agg #[i64 r0, i64 r1, i64 r2, i64 r3, i64 r4, i64 r5, i64 r6, i64 r7, i64 pc, i64 st, i64 tr, i64 op, i64 a, i64 b, i64 n, i64 size, .int .i32 y]] w fun e w' => e = .returned (.bool true) ∧ Below w.heap.size w w' := by
  have S1 := fun W => Aside0.mk (s1 W)
  have S2 := fun W => Aside0.mk (s2 W)
  clear s1 s2
  have HG := Aside0.mk hG
  clear hG
  go_enter Tryd.func6, Tryd.ntmps6
  go_wp2
  go_region
  all_goals
    have T1 := Aside0.mk trivial; have T2 := Aside0.mk trivial; have T3 := Aside0.mk trivial; go_wp2_with (first | (go_at_call 9; clear T1; (with_reducible refine ((S1 _).out (HG.out.below (by (repeat (first | (with_reducible first |  apply below_alloc | apply pw_below_drewN | apply below_drew1) | exact Below.refl _ _))) rfl)).mono ?_); rintro e w1 ⟨rfl, hb1⟩; have HB1 := Aside0.mk (below_over (by (repeat (first | (with_reducible first |  apply below_alloc | apply pw_below_drewN | apply below_drew1) | exact Below.refl _ _))) hb1); have hz1_0 : w.heap.size < w1.heap.size := (by have h_ := hb1.size; simp at h_; omega); have hz1_1 : w.heap.size + 1 < w1.heap.size := (by have h_ := hb1.size; simp at h_; omega); have hz1_2 : w.heap.size + 1 + 1 < w1.heap.size := (by have h_ := hb1.size; simp at h_; omega); have hz1_3 : w.heap.size + 1 + 1 + 1 < w1.heap.size := (by have h_ := hb1.size; simp at h_; omega); obtain ⟨hc1, hf1⟩ := bcell hb1; clear hb1) | (go_at_call 9; clear T2; (with_reducible refine ((S2 _).out (HG.out.below (by (repeat (first | (with_reducible first | exact HB1.out |  apply below_alloc | apply pw_below_drewN | apply below_drew1) | exact Below.refl _ _))) rfl)).mono ?_); rintro e w2 ⟨rfl, hb2⟩; have HB2 := Aside0.mk (below_over (by (repeat (first | (with_reducible first | exact HB1.out |  apply below_alloc | apply pw_below_drewN | apply below_drew1) | exact Below.refl _ _))) hb2); have hz2_0 : w.heap.size < w2.heap.size := (by have h_ := hb2.size; simp at h_; omega); have hz2_1 : w.heap.size + 1 < w2.heap.size := (by have h_ := hb2.size; simp at h_; omega); have hz2_2 : w.heap.size + 1 + 1 < w2.heap.size := (by have h_ := hb2.size; simp at h_; omega); have hz2_3 : w.heap.size + 1 + 1 + 1 < w2.heap.size := (by have h_ := hb2.size; simp at h_; omega); have hz2_4 : w1.heap.size < w2.heap.size := (by have h_ := hb2.size; simp at h_; omega); have hz2_5 : w1.heap.size + 1 < w2.heap.size := (by have h_ := hb2.size; simp at h_; omega); obtain ⟨hc2, hf2⟩ := bcell hb2; have hsA : (w2.setCell ⟨w1.heap.size, 8, none⟩ (.int .i64 0)).cell? ⟨w1.heap.size, 8, none⟩ = some (.int .i64 0) := World.cell?_setCell_same _ _ _ (u := .int .i64 dp) (by go_simp); have hsB : ((w2.setCell ⟨w1.heap.size, 8, none⟩ (.int .i64 0)).setCell ⟨w1.heap.size + 1, 2, none⟩ (.int .i64 0)).cell? ⟨w1.heap.size + 1, 2, none⟩ = some (.int .i64 0) := World.cell?_setCell_same _ _ _ (u := .int .i64 q2) (by go_simp); clear hb2) | (go_at_call 11; clear T3; (with_reducible refine (live_c _ (HG.out.below (by (repeat (first | (with_reducible first | exact HB2.out | exact HB1.out |  apply below_alloc | apply pw_below_drewN | apply below_drew1) | (refine Below.setCell ?_ (by first | exact HB1.out.size | exact HB2.out.size | exact Nat.le_succ_of_le HB1.out.size | exact Nat.le_succ_of_le HB2.out.size) _) | exact Below.refl _ _))) rfl)).mono ?_); rintro e w3 ⟨rfl, hb3⟩; have HB3 := Aside0.mk (below_over (by (repeat (first | (with_reducible first | exact HB2.out | exact HB1.out |  apply below_alloc | apply pw_below_drewN | apply below_drew1) | (refine Below.setCell ?_ (by first | exact HB1.out.size | exact HB2.out.size | exact Nat.le_succ_of_le HB1.out.size | exact Nat.le_succ_of_le HB2.out.size) _) | exact Below.refl _ _))) hb3); clear hb3))
    all_goals go_ret
    all_goals exact ⟨rfl, (by (repeat (first | (with_reducible first | exact HB3.out | exact HB2.out | exact HB1.out |  apply below_alloc | apply pw_below_drewN | apply below_drew1) | (refine Below.setCell ?_ (by first | exact HB1.out.size | exact HB2.out.size | exact Nat.le_succ_of_le HB1.out.size | exact Nat.le_succ_of_le HB2.out.size) _) | exact Below.refl _ _)))⟩
end Go.Proofs.YtjlfjkpbooholaaDoor.M
