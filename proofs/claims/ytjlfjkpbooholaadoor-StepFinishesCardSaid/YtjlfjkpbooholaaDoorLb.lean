/-
  Layer 4: StepFinishes, the walk: the law answers true. No condition.
-/
import Derived.Test.YtjlfjkpbooholaaDoorLive
import Derived.Test.YtjlfjkpbooholaaDoorFb
import Derived.Test.YtjlfjkpbooholaaDoorEq4
import Derived.Deep.RegionWith
import Derived.Deep.QuietTactic
import Derived.BigQuiet
import Derived.StillTailTactics
import Derived.Deep.RegionHeld3
namespace Go.Proofs.YtjlfjkpbooholaaDoor.M
open Go.RowKit Go.Proofs.YtjlfjkpbooholaaDoorW.PrintWords Go.Proofs.YtjlfjkpbooholaaDoorW.PrintLast
set_option linter.unusedSimpArgs false
set_option linter.unusedVariables false
attribute [local go_sem] min_ints max_ints setCell_drewN alloc_drewN
attribute [local go_sem] eq_regs
theorem and_below {W w1 : World} (hb : Below W.heap.size W w1) {a : Addr} {v : Value} {R R' : Prop} (h : W.cell? a = some v ∧ R) (k : R → R') : w1.cell? a = some v ∧ R' := ⟨pw_cell_below hb h.1, k h.2⟩
set_option maxRecDepth 100000 in
set_option maxHeartbeats 8000000 in
theorem stepFinishes_c (c : Cpu) (kind addr val reg n : Int) (w : World) (hG : Glob w) : Calls Tryd.prog 4 #[c.v, (⟨kind, addr, val, reg⟩ : Rq).v, i64 n] w fun e w' => e = .returned (.bool true) ∧ Below w.heap.size w w' := by
  obtain ⟨r0, r1, r2, r3, r4, r5, r6, r7, pc, st, tr⟩ := c
  have HG := Aside0.mk hG
  clear hG
  have s1 := fun W => fin_c ⟨r0, r1, r2, r3, r4, r5, r6, r7, pc, st, tr⟩ kind addr val reg n W
  have s2 := fun W => rfin_c ⟨r0, r1, r2, r3, r4, r5, r6, r7, pc, st, tr⟩ kind addr val reg n W
  generalize finF _ kind reg n = d at s1 s2
  obtain ⟨d0, d1, d2, d3, d4, d5, d6, d7, dp, ds, dt⟩ := d
  have S1 := fun W => Aside0.mk (s1 W)
  have S2 := fun W => Aside0.mk (s2 W)
  clear s1 s2
  go_enter Tryd.func4, Tryd.ntmps4
  go_wp2
  go_region_held3 (fun w' => w'.cell? ⟨w.heap.size, 0, none⟩ = some (i64 r0) ∧ w'.cell? ⟨w.heap.size, 1, none⟩ = some (i64 r1) ∧ w'.cell? ⟨w.heap.size, 2, none⟩ = some (i64 r2) ∧ w'.cell? ⟨w.heap.size, 3, none⟩ = some (i64 r3) ∧ w'.cell? ⟨w.heap.size, 4, none⟩ = some (i64 r4) ∧ w'.cell? ⟨w.heap.size, 5, none⟩ = some (i64 r5) ∧ w'.cell? ⟨w.heap.size, 6, none⟩ = some (i64 r6) ∧ w'.cell? ⟨w.heap.size, 7, none⟩ = some (i64 r7) ∧ w'.cell? ⟨w.heap.size, 8, none⟩ = some (i64 pc) ∧ w'.cell? ⟨w.heap.size, 9, none⟩ = some (i64 st) ∧ w'.cell? ⟨w.heap.size, 10, none⟩ = some (i64 tr) ∧ w'.cell? ⟨w.heap.size + 1, 0, none⟩ = some (i64 kind) ∧ w'.cell? ⟨w.heap.size + 1, 1, none⟩ = some (i64 addr) ∧ w'.cell? ⟨w.heap.size + 1, 2, none⟩ = some (i64 val) ∧ w'.cell? ⟨w.heap.size + 1, 3, none⟩ = some (i64 reg) ∧ Below w.heap.size w w') (first | (refine and_below (by assumption) (by assumption) (fun h => ?_); (repeat (refine and_below (by assumption) h (fun h => ?_))); exact below_over h (by assumption)) | ((repeat' apply And.intro) <;> first | (apply below_drew1; (repeat (first | (with_reducible first | apply below_alloc | apply pw_below_drewN | apply below_drew1) | exact Below.refl _ _))) | (go_keep; done)))
    (first | (go_at_call 12; (with_reducible refine ((S1 _).out).mono ?_); rintro e w1 ⟨rfl, hb1⟩) | (go_at_call 13; (with_reducible refine ((S2 _).out).mono ?_); rintro e w1 ⟨rfl, hb1⟩) | (go_at_call 11; (have hS_ := ‹_ ∧ _›); (have hB_ := hS_.2.2.2.2.2.2.2.2.2.2.2.2.2.2.2); clear hS_; (with_reducible refine (live_c _ (HG.out.below hB_ rfl)).mono ?_); rintro e w1 ⟨rfl, hb1⟩))
  go_wp2
  go_ret
  exact ⟨rfl, by have hS_ := ‹_ ∧ _›; exact hS_.2.2.2.2.2.2.2.2.2.2.2.2.2.2.2⟩
end Go.Proofs.YtjlfjkpbooholaaDoor.M
