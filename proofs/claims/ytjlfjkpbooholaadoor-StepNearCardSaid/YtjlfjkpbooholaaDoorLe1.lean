/-
  Layer 4: StepNear, the walk in some cases. Conditions: the cases' own.
-/
import Derived.Test.YtjlfjkpbooholaaDoorLive
import Derived.Test.YtjlfjkpbooholaaDoorEq4
import Derived.Deep.RegionWith
import Derived.Deep.QuietTactic
import Derived.BigQuiet
import Derived.StillTailTactics
import Derived.Deep.RegionHeld3
import Derived.Deep.DeepCutAuto
namespace Go.Proofs.YtjlfjkpbooholaaDoor.M
open Go.RowKit Go.Proofs.YtjlfjkpbooholaaDoorW.PrintWords Go.Proofs.YtjlfjkpbooholaaDoorW.PrintLast
set_option linter.unusedSimpArgs false
set_option linter.unusedVariables false
attribute [local go_sem] min_ints max_ints setCell_drewN alloc_drewN
attribute [local go_sem] eq_regs
theorem put_cpu {W : World} {g : Nat} {x0 x1 x2 x3 x4 x5 x6 x7 x8 x9 x10 : Int} (h : W.heap[g]? = some (.cells #[i64 0, i64 0, i64 0, i64 0, i64 0, i64 0, i64 0, i64 0, i64 0, i64 0, i64 0] 24 (0, 0))) : ((((((((((((W).setCell ⟨g, 0, none⟩ (i64 x0)).setCell ⟨g, 1, none⟩ (i64 x1)).setCell ⟨g, 2, none⟩ (i64 x2)).setCell ⟨g, 3, none⟩ (i64 x3)).setCell ⟨g, 4, none⟩ (i64 x4)).setCell ⟨g, 5, none⟩ (i64 x5)).setCell ⟨g, 6, none⟩ (i64 x6)).setCell ⟨g, 7, none⟩ (i64 x7)).setCell ⟨g, 8, none⟩ (i64 x8)).setCell ⟨g, 9, none⟩ (i64 x9)).setCell ⟨g, 10, none⟩ (i64 x10)).heap[g]? = some (.cells #[i64 x0, i64 x1, i64 x2, i64 x3, i64 x4, i64 x5, i64 x6, i64 x7, i64 x8, i64 x9, i64 x10] 24 (0, 0)) := by
  refine blk_put (cs := #[i64 x0, i64 x1, i64 x2, i64 x3, i64 x4, i64 x5, i64 x6, i64 x7, i64 x8, i64 x9, i64 0]) ?_ 10 _ rfl
  refine blk_put (cs := #[i64 x0, i64 x1, i64 x2, i64 x3, i64 x4, i64 x5, i64 x6, i64 x7, i64 x8, i64 0, i64 0]) ?_ 9 _ rfl
  refine blk_put (cs := #[i64 x0, i64 x1, i64 x2, i64 x3, i64 x4, i64 x5, i64 x6, i64 x7, i64 0, i64 0, i64 0]) ?_ 8 _ rfl
  refine blk_put (cs := #[i64 x0, i64 x1, i64 x2, i64 x3, i64 x4, i64 x5, i64 x6, i64 0, i64 0, i64 0, i64 0]) ?_ 7 _ rfl
  refine blk_put (cs := #[i64 x0, i64 x1, i64 x2, i64 x3, i64 x4, i64 x5, i64 0, i64 0, i64 0, i64 0, i64 0]) ?_ 6 _ rfl
  refine blk_put (cs := #[i64 x0, i64 x1, i64 x2, i64 x3, i64 x4, i64 0, i64 0, i64 0, i64 0, i64 0, i64 0]) ?_ 5 _ rfl
  refine blk_put (cs := #[i64 x0, i64 x1, i64 x2, i64 x3, i64 0, i64 0, i64 0, i64 0, i64 0, i64 0, i64 0]) ?_ 4 _ rfl
  refine blk_put (cs := #[i64 x0, i64 x1, i64 x2, i64 0, i64 0, i64 0, i64 0, i64 0, i64 0, i64 0, i64 0]) ?_ 3 _ rfl
  refine blk_put (cs := #[i64 x0, i64 x1, i64 0, i64 0, i64 0, i64 0, i64 0, i64 0, i64 0, i64 0, i64 0]) ?_ 2 _ rfl
  refine blk_put (cs := #[i64 x0, i64 0, i64 0, i64 0, i64 0, i64 0, i64 0, i64 0, i64 0, i64 0, i64 0]) ?_ 1 _ rfl
  refine blk_put (cs := #[i64 0, i64 0, i64 0, i64 0, i64 0, i64 0, i64 0, i64 0, i64 0, i64 0, i64 0]) ?_ 0 _ rfl
  exact h
theorem far_cpu {W : World} {g b t : Nat} {cs : Array Value} {x0 x1 x2 x3 x4 x5 x6 x7 x8 x9 x10 : Int} (h : W.heap[b]? = some (.cells cs t (0, 0))) (ne : b ≠ g) : ((((((((((((W).setCell ⟨g, 0, none⟩ (i64 x0)).setCell ⟨g, 1, none⟩ (i64 x1)).setCell ⟨g, 2, none⟩ (i64 x2)).setCell ⟨g, 3, none⟩ (i64 x3)).setCell ⟨g, 4, none⟩ (i64 x4)).setCell ⟨g, 5, none⟩ (i64 x5)).setCell ⟨g, 6, none⟩ (i64 x6)).setCell ⟨g, 7, none⟩ (i64 x7)).setCell ⟨g, 8, none⟩ (i64 x8)).setCell ⟨g, 9, none⟩ (i64 x9)).setCell ⟨g, 10, none⟩ (i64 x10)).heap[b]? = some (.cells cs t (0, 0)) := by
  refine blk_far ?_ (show b ≠ g from ne) _
  refine blk_far ?_ (show b ≠ g from ne) _
  refine blk_far ?_ (show b ≠ g from ne) _
  refine blk_far ?_ (show b ≠ g from ne) _
  refine blk_far ?_ (show b ≠ g from ne) _
  refine blk_far ?_ (show b ≠ g from ne) _
  refine blk_far ?_ (show b ≠ g from ne) _
  refine blk_far ?_ (show b ≠ g from ne) _
  refine blk_far ?_ (show b ≠ g from ne) _
  refine blk_far ?_ (show b ≠ g from ne) _
  refine blk_far ?_ (show b ≠ g from ne) _
  exact h
theorem below_cpu {B : Nat} {w0 W : World} {g : Nat} {x0 x1 x2 x3 x4 x5 x6 x7 x8 x9 x10 : Int} (h : Below B w0 W) (hg : B ≤ g) : Below B w0 ((((((((((((W).setCell ⟨g, 0, none⟩ (i64 x0)).setCell ⟨g, 1, none⟩ (i64 x1)).setCell ⟨g, 2, none⟩ (i64 x2)).setCell ⟨g, 3, none⟩ (i64 x3)).setCell ⟨g, 4, none⟩ (i64 x4)).setCell ⟨g, 5, none⟩ (i64 x5)).setCell ⟨g, 6, none⟩ (i64 x6)).setCell ⟨g, 7, none⟩ (i64 x7)).setCell ⟨g, 8, none⟩ (i64 x8)).setCell ⟨g, 9, none⟩ (i64 x9)).setCell ⟨g, 10, none⟩ (i64 x10)) := by
  refine Below.setCell ?_ hg _
  refine Below.setCell ?_ hg _
  refine Below.setCell ?_ hg _
  refine Below.setCell ?_ hg _
  refine Below.setCell ?_ hg _
  refine Below.setCell ?_ hg _
  refine Below.setCell ?_ hg _
  refine Below.setCell ?_ hg _
  refine Below.setCell ?_ hg _
  refine Below.setCell ?_ hg _
  refine Below.setCell ?_ hg _
  exact h
theorem put_rq {W : World} {g : Nat} {y0 y1 y2 y3 : Int} (h : W.heap[g]? = some (.cells #[i64 0, i64 0, i64 0, i64 0] 28 (0, 0))) : (((((W).setCell ⟨g, 0, none⟩ (i64 y0)).setCell ⟨g, 1, none⟩ (i64 y1)).setCell ⟨g, 2, none⟩ (i64 y2)).setCell ⟨g, 3, none⟩ (i64 y3)).heap[g]? = some (.cells #[i64 y0, i64 y1, i64 y2, i64 y3] 28 (0, 0)) := by
  refine blk_put (cs := #[i64 y0, i64 y1, i64 y2, i64 0]) ?_ 3 _ rfl
  refine blk_put (cs := #[i64 y0, i64 y1, i64 0, i64 0]) ?_ 2 _ rfl
  refine blk_put (cs := #[i64 y0, i64 0, i64 0, i64 0]) ?_ 1 _ rfl
  refine blk_put (cs := #[i64 0, i64 0, i64 0, i64 0]) ?_ 0 _ rfl
  exact h
theorem far_rq {W : World} {g b t : Nat} {cs : Array Value} {y0 y1 y2 y3 : Int} (h : W.heap[b]? = some (.cells cs t (0, 0))) (ne : b ≠ g) : (((((W).setCell ⟨g, 0, none⟩ (i64 y0)).setCell ⟨g, 1, none⟩ (i64 y1)).setCell ⟨g, 2, none⟩ (i64 y2)).setCell ⟨g, 3, none⟩ (i64 y3)).heap[b]? = some (.cells cs t (0, 0)) := by
  refine blk_far ?_ (show b ≠ g from ne) _
  refine blk_far ?_ (show b ≠ g from ne) _
  refine blk_far ?_ (show b ≠ g from ne) _
  refine blk_far ?_ (show b ≠ g from ne) _
  exact h
theorem below_rq {B : Nat} {w0 W : World} {g : Nat} {y0 y1 y2 y3 : Int} (h : Below B w0 W) (hg : B ≤ g) : Below B w0 (((((W).setCell ⟨g, 0, none⟩ (i64 y0)).setCell ⟨g, 1, none⟩ (i64 y1)).setCell ⟨g, 2, none⟩ (i64 y2)).setCell ⟨g, 3, none⟩ (i64 y3)) := by
  refine Below.setCell ?_ hg _
  refine Below.setCell ?_ hg _
  refine Below.setCell ?_ hg _
  refine Below.setCell ?_ hg _
  exact h
theorem heap_at {W : World} {o : Obj} {g : Nat} (h : g = W.heap.size) : (W.alloc o).heap[g]? = some o := by subst h; exact blk_new W o
set_option maxRecDepth 100000 in
set_option maxHeartbeats 40000000 in
theorem near_neg1 {r0 r1 r2 r3 r4 r5 r6 r7 pc st tr which a n d0 d1 d2 d3 d4 d5 d6 d7 dp ds dt q0 q1 q2 q3 : Int} (hnw : wrap64 n = n) (hnw2 : IntKind.i64.wrap n = n) (hw0 : -9223372036854775808 ≤ which) (hw1 : which < 9223372036854775808) (hd : decide (which < 0) = false) (hv : which.tmod 3 = 1)
    (s1 : ∀ W, Glob W → Calls Tryd.prog 9 #[(⟨r0, r1, r2, r3, r4, r5, r6, r7, pc, st, tr⟩ : Cpu).v, ins 21 a 0 n, i64 6] W fun e w' => e = .returned (.tuple #[(⟨d0, d1, d2, d3, d4, d5, d6, d7, dp, ds, dt⟩ : Cpu).v, (⟨q0, q1, q2, q3⟩ : Rq).v]) ∧ Below W.heap.size W w')
    (s2 : ∀ W, Glob W → Calls Tryd.prog 9 #[(⟨r0, r1, r2, r3, r4, r5, r6, r7, pc, st, tr⟩ : Cpu).v, ins 26 a 0 n, i64 6] W fun e w' => e = .returned (.tuple #[(⟨d0, d1, d2, d3, d4, d5, d6, d7, dp, ds, dt⟩ : Cpu).v, (⟨q0, q1, q2, q3⟩ : Rq).v]) ∧ Below W.heap.size W w')
    (w : World) (hG : Glob w) : Calls Tryd.prog 7 #[.agg #[i64 r0, i64 r1, i64 r2, i64 r3, i64 r4, i64 r5, i64 r6, i64 r7, i64 pc, i64 st, i64 tr, i64 which, i64 a, .int .i8 n]] w fun e w' => e = .returned (.bool true) ∧ Below w.heap.size w w' := by
  have S1 := fun W => Aside0.mk (s1 W)
  have S2 := fun W => Aside0.mk (s2 W)
  have HG := Aside0.mk hG
  clear hG s1 s2
  go_enter Tryd.func7, Tryd.ntmps7
  go_wp2
  go_region
  go_upto_region 9 with fail
  have SOF := Aside0.mk (show ∀ w', Below ((((w.alloc (.cells #[i64 r0, i64 r1, i64 r2, i64 r3, i64 r4, i64 r5, i64 r6, i64 r7, i64 pc, i64 st, i64 tr, i64 which, i64 a, .int .i8 n] 40)).alloc (.cells #[i64 r0, i64 r1, i64 r2, i64 r3, i64 r4, i64 r5, i64 r6, i64 r7, i64 pc, i64 st, i64 tr] 24)).alloc (.cells #[i64 20, i64 21, i64 22] 3)).alloc (.cells #[i64 25, i64 26, i64 27] 3)).heap.size ((((w.alloc (.cells #[i64 r0, i64 r1, i64 r2, i64 r3, i64 r4, i64 r5, i64 r6, i64 r7, i64 pc, i64 st, i64 tr, i64 which, i64 a, .int .i8 n] 40)).alloc (.cells #[i64 r0, i64 r1, i64 r2, i64 r3, i64 r4, i64 r5, i64 r6, i64 r7, i64 pc, i64 st, i64 tr] 24)).alloc (.cells #[i64 20, i64 21, i64 22] 3)).alloc (.cells #[i64 25, i64 26, i64 27] 3)) w' → (w'.cell? ⟨w.heap.size + 1, 0, none⟩ = some (i64 r0) ∧ w'.cell? ⟨w.heap.size + 1, 1, none⟩ = some (i64 r1) ∧ w'.cell? ⟨w.heap.size + 1, 2, none⟩ = some (i64 r2) ∧ w'.cell? ⟨w.heap.size + 1, 3, none⟩ = some (i64 r3) ∧ w'.cell? ⟨w.heap.size + 1, 4, none⟩ = some (i64 r4) ∧ w'.cell? ⟨w.heap.size + 1, 5, none⟩ = some (i64 r5) ∧ w'.cell? ⟨w.heap.size + 1, 6, none⟩ = some (i64 r6) ∧ w'.cell? ⟨w.heap.size + 1, 7, none⟩ = some (i64 r7) ∧ w'.cell? ⟨w.heap.size + 1, 8, none⟩ = some (i64 pc) ∧ w'.cell? ⟨w.heap.size + 1, 9, none⟩ = some (i64 st) ∧ w'.cell? ⟨w.heap.size + 1, 10, none⟩ = some (i64 tr) ∧ w'.cell? ⟨w.heap.size + 1 + 1, 1, none⟩ = some (i64 21) ∧ Below ((((w.alloc (.cells #[i64 r0, i64 r1, i64 r2, i64 r3, i64 r4, i64 r5, i64 r6, i64 r7, i64 pc, i64 st, i64 tr, i64 which, i64 a, .int .i8 n] 40)).alloc (.cells #[i64 r0, i64 r1, i64 r2, i64 r3, i64 r4, i64 r5, i64 r6, i64 r7, i64 pc, i64 st, i64 tr] 24)).alloc (.cells #[i64 20, i64 21, i64 22] 3)).alloc (.cells #[i64 25, i64 26, i64 27] 3)).heap.size ((((w.alloc (.cells #[i64 r0, i64 r1, i64 r2, i64 r3, i64 r4, i64 r5, i64 r6, i64 r7, i64 pc, i64 st, i64 tr, i64 which, i64 a, .int .i8 n] 40)).alloc (.cells #[i64 r0, i64 r1, i64 r2, i64 r3, i64 r4, i64 r5, i64 r6, i64 r7, i64 pc, i64 st, i64 tr] 24)).alloc (.cells #[i64 20, i64 21, i64 22] 3)).alloc (.cells #[i64 25, i64 26, i64 27] 3)) w') from fun w' hb => ⟨pw_cell_below hb (by go_simp), pw_cell_below hb (by go_simp), pw_cell_below hb (by go_simp), pw_cell_below hb (by go_simp), pw_cell_below hb (by go_simp), pw_cell_below hb (by go_simp), pw_cell_below hb (by go_simp), pw_cell_below hb (by go_simp), pw_cell_below hb (by go_simp), pw_cell_below hb (by go_simp), pw_cell_below hb (by go_simp), pw_cell_below hb (by go_simp), hb⟩)
  go_cut [9, 10] (fun s9 s10 wx => ∃ g1 g2 : Nat, s9 = .pointer (some ⟨g1, 0, none⟩) ∧ s10 = .pointer (some ⟨g2, 0, none⟩) ∧ Aside0 (wx.heap[g1]? = some (.cells #[i64 d0, i64 d1, i64 d2, i64 d3, i64 d4, i64 d5, i64 d6, i64 d7, i64 dp, i64 ds, i64 dt] 24 (0, 0))) ∧ Aside0 (wx.heap[g2]? = some (.cells #[i64 q0, i64 q1, i64 q2, i64 q3] 28 (0, 0))) ∧ Aside0 (Below ((((w.alloc (.cells #[i64 r0, i64 r1, i64 r2, i64 r3, i64 r4, i64 r5, i64 r6, i64 r7, i64 pc, i64 st, i64 tr, i64 which, i64 a, .int .i8 n] 40)).alloc (.cells #[i64 r0, i64 r1, i64 r2, i64 r3, i64 r4, i64 r5, i64 r6, i64 r7, i64 pc, i64 st, i64 tr] 24)).alloc (.cells #[i64 20, i64 21, i64 22] 3)).alloc (.cells #[i64 25, i64 26, i64 27] 3)).heap.size ((((w.alloc (.cells #[i64 r0, i64 r1, i64 r2, i64 r3, i64 r4, i64 r5, i64 r6, i64 r7, i64 pc, i64 st, i64 tr, i64 which, i64 a, .int .i8 n] 40)).alloc (.cells #[i64 r0, i64 r1, i64 r2, i64 r3, i64 r4, i64 r5, i64 r6, i64 r7, i64 pc, i64 st, i64 tr] 24)).alloc (.cells #[i64 20, i64 21, i64 22] 3)).alloc (.cells #[i64 25, i64 26, i64 27] 3)) wx))
  case first =>
    go_region_held3 (fun w' => w'.cell? ⟨w.heap.size + 1, 0, none⟩ = some (i64 r0) ∧ w'.cell? ⟨w.heap.size + 1, 1, none⟩ = some (i64 r1) ∧ w'.cell? ⟨w.heap.size + 1, 2, none⟩ = some (i64 r2) ∧ w'.cell? ⟨w.heap.size + 1, 3, none⟩ = some (i64 r3) ∧ w'.cell? ⟨w.heap.size + 1, 4, none⟩ = some (i64 r4) ∧ w'.cell? ⟨w.heap.size + 1, 5, none⟩ = some (i64 r5) ∧ w'.cell? ⟨w.heap.size + 1, 6, none⟩ = some (i64 r6) ∧ w'.cell? ⟨w.heap.size + 1, 7, none⟩ = some (i64 r7) ∧ w'.cell? ⟨w.heap.size + 1, 8, none⟩ = some (i64 pc) ∧ w'.cell? ⟨w.heap.size + 1, 9, none⟩ = some (i64 st) ∧ w'.cell? ⟨w.heap.size + 1, 10, none⟩ = some (i64 tr) ∧ w'.cell? ⟨w.heap.size + 1 + 1, 1, none⟩ = some (i64 21) ∧ Below ((((w.alloc (.cells #[i64 r0, i64 r1, i64 r2, i64 r3, i64 r4, i64 r5, i64 r6, i64 r7, i64 pc, i64 st, i64 tr, i64 which, i64 a, .int .i8 n] 40)).alloc (.cells #[i64 r0, i64 r1, i64 r2, i64 r3, i64 r4, i64 r5, i64 r6, i64 r7, i64 pc, i64 st, i64 tr] 24)).alloc (.cells #[i64 20, i64 21, i64 22] 3)).alloc (.cells #[i64 25, i64 26, i64 27] 3)).heap.size ((((w.alloc (.cells #[i64 r0, i64 r1, i64 r2, i64 r3, i64 r4, i64 r5, i64 r6, i64 r7, i64 pc, i64 st, i64 tr, i64 which, i64 a, .int .i8 n] 40)).alloc (.cells #[i64 r0, i64 r1, i64 r2, i64 r3, i64 r4, i64 r5, i64 r6, i64 r7, i64 pc, i64 st, i64 tr] 24)).alloc (.cells #[i64 20, i64 21, i64 22] 3)).alloc (.cells #[i64 25, i64 26, i64 27] 3)) w') (first | (refine SOF.out _ ?_; (repeat (with_reducible first | exact Below.refl _ _ | exact below_over (And.right (And.right (And.right (And.right (And.right (And.right (And.right (And.right (And.right (And.right (And.right (And.right ‹_›)))))))))))) (by assumption) | exact (And.right (And.right (And.right (And.right (And.right (And.right (And.right (And.right (And.right (And.right (And.right (And.right ‹_›)))))))))))) | assumption | apply below_alloc | apply below_drew1 | apply pw_below_drewN | (refine Below.setCell ?_ (by simp) _) | (refine Below.setCell ?_ (by simp; omega) _) | (refine Below.setCell ?_ (by omega) _))); done) | (go_show; fail))
      (first | (go_at_call 9; (have hS_ := ‹_ ∧ _›); (have hB_ := hS_.2.2.2.2.2.2.2.2.2.2.2.2); clear hS_; (with_reducible refine ((S1 _).out (HG.out.below (below_over (by (repeat (first | (with_reducible first | apply below_alloc | apply pw_below_drewN | apply below_drew1) | exact Below.refl _ _))) hB_) rfl)).mono ?_); rintro e w1 ⟨rfl, hb1⟩; have HBw := below_over hB_ hb1; (try (have hz0 : w.heap.size < w1.heap.size := (by have h_ := hb1.size; simp at h_; omega))); (try (have hz1 : w.heap.size + 1 < w1.heap.size := (by have h_ := hb1.size; simp at h_; omega))); (try (have hz2 : w.heap.size + 1 + 1 < w1.heap.size := (by have h_ := hb1.size; simp at h_; omega))); (try (have hz3 : w.heap.size + 1 + 1 + 1 < w1.heap.size := (by have h_ := hb1.size; simp at h_; omega))); (try (have hz4 : w.heap.size + 1 + 1 + 1 + 1 < w1.heap.size := (by have h_ := hb1.size; simp at h_; omega))); (try (have hz5 : w.heap.size + 1 + 1 + 1 + 1 + 1 < w1.heap.size := (by have h_ := hb1.size; simp at h_; omega))); obtain ⟨hc1, hf1⟩ := bcell hb1; have HB1 := Aside0.mk hb1))
    all_goals (go_wp2_with fail; go_meet; refine ⟨_, _, rfl, rfl, ⟨?_⟩, ⟨?_⟩, ⟨?_⟩⟩; (· ((repeat (first | (with_reducible refine put_cpu ?_) | (with_reducible refine put_rq ?_) | (with_reducible refine heap_at ?_; (first | (simp; done) | (simp; omega) | omega)) | (with_reducible refine blk_alloc ?_ _) | (with_reducible refine blk_drewN ?_ _) | (with_reducible refine blk_drew ?_) | (with_reducible refine far_cpu ?_ ?_; rotate_left; (first | (simp; done) | (simp; omega) | omega)) | (with_reducible refine far_rq ?_ ?_; rotate_left; (first | (simp; done) | (simp; omega) | omega)))); (first | done | ((with_reducible refine (HB1.out.block _ ?_).trans ?_); (focus (first | (simp; done) | (simp; omega) | omega)); (repeat (first | (with_reducible refine put_cpu ?_) | (with_reducible refine put_rq ?_) | (with_reducible refine heap_at ?_; (first | (simp; done) | (simp; omega) | omega)) | (with_reducible refine blk_alloc ?_ _) | (with_reducible refine blk_drewN ?_ _) | (with_reducible refine blk_drew ?_) | (with_reducible refine far_cpu ?_ ?_; rotate_left; (first | (simp; done) | (simp; omega) | omega)) | (with_reducible refine far_rq ?_ ?_; rotate_left; (first | (simp; done) | (simp; omega) | omega)))))))); (· ((repeat (first | (with_reducible refine put_cpu ?_) | (with_reducible refine put_rq ?_) | (with_reducible refine heap_at ?_; (first | (simp; done) | (simp; omega) | omega)) | (with_reducible refine blk_alloc ?_ _) | (with_reducible refine blk_drewN ?_ _) | (with_reducible refine blk_drew ?_) | (with_reducible refine far_cpu ?_ ?_; rotate_left; (first | (simp; done) | (simp; omega) | omega)) | (with_reducible refine far_rq ?_ ?_; rotate_left; (first | (simp; done) | (simp; omega) | omega)))); (first | done | ((with_reducible refine (HB1.out.block _ ?_).trans ?_); (focus (first | (simp; done) | (simp; omega) | omega)); (repeat (first | (with_reducible refine put_cpu ?_) | (with_reducible refine put_rq ?_) | (with_reducible refine heap_at ?_; (first | (simp; done) | (simp; omega) | omega)) | (with_reducible refine blk_alloc ?_ _) | (with_reducible refine blk_drewN ?_ _) | (with_reducible refine blk_drew ?_) | (with_reducible refine far_cpu ?_ ?_; rotate_left; (first | (simp; done) | (simp; omega) | omega)) | (with_reducible refine far_rq ?_ ?_; rotate_left; (first | (simp; done) | (simp; omega) | omega)))))))); (· (repeat (with_reducible first | exact Below.refl _ _ | exact (And.right (And.right (And.right (And.right (And.right (And.right (And.right (And.right (And.right (And.right (And.right (And.right ‹_›)))))))))))) | assumption | apply below_alloc | apply below_drew1 | apply pw_below_drewN | (refine below_cpu ?_ ?_; rotate_left; (first | (simp; done) | (simp; omega) | omega)) | (refine below_rq ?_ ?_; rotate_left; (first | (simp; done) | (simp; omega) | omega)) | (refine Below.setCell ?_ (by simp) _) | (refine Below.setCell ?_ (by simp; omega) _) | (refine Below.setCell ?_ (by omega) _)))))
  case rest =>
    obtain ⟨g1, g2, rfl, rfl, ⟨b1⟩, ⟨b2⟩, ⟨hB⟩⟩ := hcut
    clear SOF
    have k0 : wc.cell? ⟨g1, 0, none⟩ = some (i64 d0) := (blk_cell b1 0).trans rfl
    have k1 : wc.cell? ⟨g1, 1, none⟩ = some (i64 d1) := (blk_cell b1 1).trans rfl
    have k2 : wc.cell? ⟨g1, 2, none⟩ = some (i64 d2) := (blk_cell b1 2).trans rfl
    have k3 : wc.cell? ⟨g1, 3, none⟩ = some (i64 d3) := (blk_cell b1 3).trans rfl
    have k4 : wc.cell? ⟨g1, 4, none⟩ = some (i64 d4) := (blk_cell b1 4).trans rfl
    have k5 : wc.cell? ⟨g1, 5, none⟩ = some (i64 d5) := (blk_cell b1 5).trans rfl
    have k6 : wc.cell? ⟨g1, 6, none⟩ = some (i64 d6) := (blk_cell b1 6).trans rfl
    have k7 : wc.cell? ⟨g1, 7, none⟩ = some (i64 d7) := (blk_cell b1 7).trans rfl
    have k8 : wc.cell? ⟨g1, 8, none⟩ = some (i64 dp) := (blk_cell b1 8).trans rfl
    have k9 : wc.cell? ⟨g1, 9, none⟩ = some (i64 ds) := (blk_cell b1 9).trans rfl
    have k10 : wc.cell? ⟨g1, 10, none⟩ = some (i64 dt) := (blk_cell b1 10).trans rfl
    have k11 : wc.cell? ⟨g2, 0, none⟩ = some (i64 q0) := (blk_cell b2 0).trans rfl
    have k12 : wc.cell? ⟨g2, 1, none⟩ = some (i64 q1) := (blk_cell b2 1).trans rfl
    have k13 : wc.cell? ⟨g2, 2, none⟩ = some (i64 q2) := (blk_cell b2 2).trans rfl
    have k14 : wc.cell? ⟨g2, 3, none⟩ = some (i64 q3) := (blk_cell b2 3).trans rfl
    clear b1 b2
    have hg1 : g1 < wc.heap.size := World.block_lt_of_cell? _ _ k0
    have hg2 : g2 < wc.heap.size := World.block_lt_of_cell? _ _ k11
    have hsz : w.heap.size + 1 + 1 + 1 < wc.heap.size := by have h_ := hB.size; simp at h_; omega
    have SOF := Aside0.mk (show ∀ w', Below wc.heap.size wc w' → (w'.cell? ⟨w.heap.size + 1, 0, none⟩ = some (i64 r0) ∧ w'.cell? ⟨w.heap.size + 1, 1, none⟩ = some (i64 r1) ∧ w'.cell? ⟨w.heap.size + 1, 2, none⟩ = some (i64 r2) ∧ w'.cell? ⟨w.heap.size + 1, 3, none⟩ = some (i64 r3) ∧ w'.cell? ⟨w.heap.size + 1, 4, none⟩ = some (i64 r4) ∧ w'.cell? ⟨w.heap.size + 1, 5, none⟩ = some (i64 r5) ∧ w'.cell? ⟨w.heap.size + 1, 6, none⟩ = some (i64 r6) ∧ w'.cell? ⟨w.heap.size + 1, 7, none⟩ = some (i64 r7) ∧ w'.cell? ⟨w.heap.size + 1, 8, none⟩ = some (i64 pc) ∧ w'.cell? ⟨w.heap.size + 1, 9, none⟩ = some (i64 st) ∧ w'.cell? ⟨w.heap.size + 1, 10, none⟩ = some (i64 tr) ∧ w'.cell? ⟨w.heap.size + 1 + 1 + 1, 1, none⟩ = some (i64 26) ∧ Below wc.heap.size wc w') from fun w' hb => ⟨pw_cell_below hb (pw_cell_below hB (by go_simp)), pw_cell_below hb (pw_cell_below hB (by go_simp)), pw_cell_below hb (pw_cell_below hB (by go_simp)), pw_cell_below hb (pw_cell_below hB (by go_simp)), pw_cell_below hb (pw_cell_below hB (by go_simp)), pw_cell_below hb (pw_cell_below hB (by go_simp)), pw_cell_below hb (pw_cell_below hB (by go_simp)), pw_cell_below hb (pw_cell_below hB (by go_simp)), pw_cell_below hb (pw_cell_below hB (by go_simp)), pw_cell_below hb (pw_cell_below hB (by go_simp)), pw_cell_below hb (pw_cell_below hB (by go_simp)), pw_cell_below hb (pw_cell_below hB (by go_simp)), hb⟩)
    have KK := Aside0.mk (show wc.cell? ⟨g1, 0, none⟩ = some (i64 d0) ∧ wc.cell? ⟨g1, 1, none⟩ = some (i64 d1) ∧ wc.cell? ⟨g1, 2, none⟩ = some (i64 d2) ∧ wc.cell? ⟨g1, 3, none⟩ = some (i64 d3) ∧ wc.cell? ⟨g1, 4, none⟩ = some (i64 d4) ∧ wc.cell? ⟨g1, 5, none⟩ = some (i64 d5) ∧ wc.cell? ⟨g1, 6, none⟩ = some (i64 d6) ∧ wc.cell? ⟨g1, 7, none⟩ = some (i64 d7) ∧ wc.cell? ⟨g1, 8, none⟩ = some (i64 dp) ∧ wc.cell? ⟨g1, 9, none⟩ = some (i64 ds) ∧ wc.cell? ⟨g1, 10, none⟩ = some (i64 dt) ∧ wc.cell? ⟨g2, 0, none⟩ = some (i64 q0) ∧ wc.cell? ⟨g2, 1, none⟩ = some (i64 q1) ∧ wc.cell? ⟨g2, 2, none⟩ = some (i64 q2) ∧ wc.cell? ⟨g2, 3, none⟩ = some (i64 q3) from ⟨k0, k1, k2, k3, k4, k5, k6, k7, k8, k9, k10, k11, k12, k13, k14⟩)
    have HB := Aside0.mk hB
    clear hB k0 k1 k2 k3 k4 k5 k6 k7 k8 k9 k10 k11 k12 k13 k14
    go_upto_region 10 with fail
    go_cut [11, 12] (fun s11 s12 wx => ∃ g3 g4 : Nat, s11 = .pointer (some ⟨g3, 0, none⟩) ∧ s12 = .pointer (some ⟨g4, 0, none⟩) ∧ Aside0 (wx.heap[g3]? = some (.cells #[i64 d0, i64 d1, i64 d2, i64 d3, i64 d4, i64 d5, i64 d6, i64 d7, i64 dp, i64 ds, i64 dt] 24 (0, 0))) ∧ Aside0 (wx.heap[g4]? = some (.cells #[i64 q0, i64 q1, i64 q2, i64 q3] 28 (0, 0))) ∧ Aside0 (Below wc.heap.size wc wx))
    case first =>
      go_region_held3 (fun w' => w'.cell? ⟨w.heap.size + 1, 0, none⟩ = some (i64 r0) ∧ w'.cell? ⟨w.heap.size + 1, 1, none⟩ = some (i64 r1) ∧ w'.cell? ⟨w.heap.size + 1, 2, none⟩ = some (i64 r2) ∧ w'.cell? ⟨w.heap.size + 1, 3, none⟩ = some (i64 r3) ∧ w'.cell? ⟨w.heap.size + 1, 4, none⟩ = some (i64 r4) ∧ w'.cell? ⟨w.heap.size + 1, 5, none⟩ = some (i64 r5) ∧ w'.cell? ⟨w.heap.size + 1, 6, none⟩ = some (i64 r6) ∧ w'.cell? ⟨w.heap.size + 1, 7, none⟩ = some (i64 r7) ∧ w'.cell? ⟨w.heap.size + 1, 8, none⟩ = some (i64 pc) ∧ w'.cell? ⟨w.heap.size + 1, 9, none⟩ = some (i64 st) ∧ w'.cell? ⟨w.heap.size + 1, 10, none⟩ = some (i64 tr) ∧ w'.cell? ⟨w.heap.size + 1 + 1 + 1, 1, none⟩ = some (i64 26) ∧ Below wc.heap.size wc w') (first | (refine SOF.out _ ?_; (repeat (with_reducible first | exact Below.refl _ _ | exact below_over (And.right (And.right (And.right (And.right (And.right (And.right (And.right (And.right (And.right (And.right (And.right (And.right ‹_›)))))))))))) (by assumption) | exact (And.right (And.right (And.right (And.right (And.right (And.right (And.right (And.right (And.right (And.right (And.right (And.right ‹_›)))))))))))) | assumption | apply below_alloc | apply below_drew1 | apply pw_below_drewN | (refine Below.setCell ?_ (by simp) _) | (refine Below.setCell ?_ (by simp; omega) _) | (refine Below.setCell ?_ (by omega) _))); done) | (go_show; fail))
        (first | (go_at_call 9; (have hS_ := ‹_ ∧ _›); (have hB_ := hS_.2.2.2.2.2.2.2.2.2.2.2.2); clear hS_; (with_reducible refine ((S2 _).out (HG.out.below (below_over (below_over (by (repeat (first | (with_reducible first | apply below_alloc | apply pw_below_drewN | apply below_drew1) | exact Below.refl _ _))) HB.out) hB_) rfl)).mono ?_); rintro e w1 ⟨rfl, hb1⟩; have HBw := below_over hB_ hb1; (try (have hz0 : g1 < w1.heap.size := (by have h_ := hb1.size; simp at h_; omega))); (try (have hz1 : g2 < w1.heap.size := (by have h_ := hb1.size; simp at h_; omega))); (try (have hz2 : w.heap.size + 1 < w1.heap.size := (by have h_ := hb1.size; simp at h_; omega))); (try (have hz3 : w.heap.size + 1 + 1 + 1 < w1.heap.size := (by have h_ := hb1.size; simp at h_; omega))); (try (have hz4 : wc.heap.size < w1.heap.size := (by have h_ := hb1.size; simp at h_; omega))); (try (have hz5 : wc.heap.size + 1 < w1.heap.size := (by have h_ := hb1.size; simp at h_; omega))); obtain ⟨hc1, hf1⟩ := bcell hb1; have HB1 := Aside0.mk hb1))
      all_goals (go_wp2_with fail; go_meet; refine ⟨_, _, rfl, rfl, ⟨?_⟩, ⟨?_⟩, ⟨?_⟩⟩; (· ((repeat (first | (with_reducible refine put_cpu ?_) | (with_reducible refine put_rq ?_) | (with_reducible refine heap_at ?_; (first | (simp; done) | (simp; omega) | omega)) | (with_reducible refine blk_alloc ?_ _) | (with_reducible refine blk_drewN ?_ _) | (with_reducible refine blk_drew ?_) | (with_reducible refine far_cpu ?_ ?_; rotate_left; (first | (simp; done) | (simp; omega) | omega)) | (with_reducible refine far_rq ?_ ?_; rotate_left; (first | (simp; done) | (simp; omega) | omega)))); (first | done | ((with_reducible refine (HB1.out.block _ ?_).trans ?_); (focus (first | (simp; done) | (simp; omega) | omega)); (repeat (first | (with_reducible refine put_cpu ?_) | (with_reducible refine put_rq ?_) | (with_reducible refine heap_at ?_; (first | (simp; done) | (simp; omega) | omega)) | (with_reducible refine blk_alloc ?_ _) | (with_reducible refine blk_drewN ?_ _) | (with_reducible refine blk_drew ?_) | (with_reducible refine far_cpu ?_ ?_; rotate_left; (first | (simp; done) | (simp; omega) | omega)) | (with_reducible refine far_rq ?_ ?_; rotate_left; (first | (simp; done) | (simp; omega) | omega)))))))); (· ((repeat (first | (with_reducible refine put_cpu ?_) | (with_reducible refine put_rq ?_) | (with_reducible refine heap_at ?_; (first | (simp; done) | (simp; omega) | omega)) | (with_reducible refine blk_alloc ?_ _) | (with_reducible refine blk_drewN ?_ _) | (with_reducible refine blk_drew ?_) | (with_reducible refine far_cpu ?_ ?_; rotate_left; (first | (simp; done) | (simp; omega) | omega)) | (with_reducible refine far_rq ?_ ?_; rotate_left; (first | (simp; done) | (simp; omega) | omega)))); (first | done | ((with_reducible refine (HB1.out.block _ ?_).trans ?_); (focus (first | (simp; done) | (simp; omega) | omega)); (repeat (first | (with_reducible refine put_cpu ?_) | (with_reducible refine put_rq ?_) | (with_reducible refine heap_at ?_; (first | (simp; done) | (simp; omega) | omega)) | (with_reducible refine blk_alloc ?_ _) | (with_reducible refine blk_drewN ?_ _) | (with_reducible refine blk_drew ?_) | (with_reducible refine far_cpu ?_ ?_; rotate_left; (first | (simp; done) | (simp; omega) | omega)) | (with_reducible refine far_rq ?_ ?_; rotate_left; (first | (simp; done) | (simp; omega) | omega)))))))); (· (repeat (with_reducible first | exact Below.refl _ _ | exact (And.right (And.right (And.right (And.right (And.right (And.right (And.right (And.right (And.right (And.right (And.right (And.right ‹_›)))))))))))) | assumption | apply below_alloc | apply below_drew1 | apply pw_below_drewN | (refine below_cpu ?_ ?_; rotate_left; (first | (simp; done) | (simp; omega) | omega)) | (refine below_rq ?_ ?_; rotate_left; (first | (simp; done) | (simp; omega) | omega)) | (refine Below.setCell ?_ (by simp) _) | (refine Below.setCell ?_ (by simp; omega) _) | (refine Below.setCell ?_ (by omega) _)))))
    case rest =>
      obtain ⟨g3, g4, rfl, rfl, ⟨b3⟩, ⟨b4⟩, ⟨hB2⟩⟩ := hcut
      obtain ⟨k0, k1, k2, k3, k4, k5, k6, k7, k8, k9, k10, k11, k12, k13, k14⟩ := KK.out
      have m0 : wc.cell? ⟨g3, 0, none⟩ = some (i64 d0) := (blk_cell b3 0).trans rfl
      have m1 : wc.cell? ⟨g3, 1, none⟩ = some (i64 d1) := (blk_cell b3 1).trans rfl
      have m2 : wc.cell? ⟨g3, 2, none⟩ = some (i64 d2) := (blk_cell b3 2).trans rfl
      have m3 : wc.cell? ⟨g3, 3, none⟩ = some (i64 d3) := (blk_cell b3 3).trans rfl
      have m4 : wc.cell? ⟨g3, 4, none⟩ = some (i64 d4) := (blk_cell b3 4).trans rfl
      have m5 : wc.cell? ⟨g3, 5, none⟩ = some (i64 d5) := (blk_cell b3 5).trans rfl
      have m6 : wc.cell? ⟨g3, 6, none⟩ = some (i64 d6) := (blk_cell b3 6).trans rfl
      have m7 : wc.cell? ⟨g3, 7, none⟩ = some (i64 d7) := (blk_cell b3 7).trans rfl
      have m8 : wc.cell? ⟨g3, 8, none⟩ = some (i64 dp) := (blk_cell b3 8).trans rfl
      have m9 : wc.cell? ⟨g3, 9, none⟩ = some (i64 ds) := (blk_cell b3 9).trans rfl
      have m10 : wc.cell? ⟨g3, 10, none⟩ = some (i64 dt) := (blk_cell b3 10).trans rfl
      have m11 : wc.cell? ⟨g4, 0, none⟩ = some (i64 q0) := (blk_cell b4 0).trans rfl
      have m12 : wc.cell? ⟨g4, 1, none⟩ = some (i64 q1) := (blk_cell b4 1).trans rfl
      have m13 : wc.cell? ⟨g4, 2, none⟩ = some (i64 q2) := (blk_cell b4 2).trans rfl
      have m14 : wc.cell? ⟨g4, 3, none⟩ = some (i64 q3) := (blk_cell b4 3).trans rfl
      clear b3 b4
      have n0 := pw_cell_below hB2 k0
      have n1 := pw_cell_below hB2 k1
      have n2 := pw_cell_below hB2 k2
      have n3 := pw_cell_below hB2 k3
      have n4 := pw_cell_below hB2 k4
      have n5 := pw_cell_below hB2 k5
      have n6 := pw_cell_below hB2 k6
      have n7 := pw_cell_below hB2 k7
      have n8 := pw_cell_below hB2 k8
      have n9 := pw_cell_below hB2 k9
      have n10 := pw_cell_below hB2 k10
      have n11 := pw_cell_below hB2 k11
      have n12 := pw_cell_below hB2 k12
      have n13 := pw_cell_below hB2 k13
      have n14 := pw_cell_below hB2 k14
      have HB2 := Aside0.mk hB2
      clear hB2 SOF KK k0 k1 k2 k3 k4 k5 k6 k7 k8 k9 k10 k11 k12 k13 k14
      go_wp2_with (first | (go_at_call 11; (with_reducible refine (live_c _ (HG.out.below (below_over (below_over (by (repeat (first | (with_reducible first | apply below_alloc | apply pw_below_drewN | apply below_drew1) | exact Below.refl _ _))) HB.out) HB2.out) rfl)).mono ?_); rintro e w9 ⟨rfl, hb9⟩))
      go_ret
      exact ⟨rfl, below_over (below_over (below_over (by (repeat (first | (with_reducible first | apply below_alloc | apply pw_below_drewN | apply below_drew1) | exact Below.refl _ _))) HB.out) HB2.out) hb9⟩
end Go.Proofs.YtjlfjkpbooholaaDoor.M
