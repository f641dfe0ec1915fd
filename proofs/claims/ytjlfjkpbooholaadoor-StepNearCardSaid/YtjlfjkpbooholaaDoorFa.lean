/-
  Layer 4: package step's Finish. No condition.
-/
import Derived.Test.YtjlfjkpbooholaaDoorPlain
import Derived.Deep.RegionWith
import Derived.Deep.QuietTactic
import Derived.BigQuiet
import Derived.StillTailTactics
namespace Go.Proofs.YtjlfjkpbooholaaDoor.M
open Go.RowKit Go.Proofs.YtjlfjkpbooholaaDoorW.PrintWords Go.Proofs.YtjlfjkpbooholaaDoorW.PrintLast
set_option linter.unusedSimpArgs false
set_option linter.unusedVariables false
attribute [local go_sem] min_ints max_ints setCell_drewN alloc_drewN
set_option maxRecDepth 100000 in
set_option maxHeartbeats 4000000 in
theorem fin_c (c : Cpu) (kind addr val reg n : Int) (w : World) :
    Calls Tryd.prog 12 #[c.v, (⟨kind, addr, val, reg⟩ : Rq).v, i64 n] w fun e w' => e = .returned (finF c kind reg n).v ∧ Below w.heap.size w w' := by
  obtain ⟨r0, r1, r2, r3, r4, r5, r6, r7, pc, st, tr⟩ := c
  by_cases hk : kind = 1 ∨ kind = 3 ∨ kind = 4
  case neg =>
    have k1 : (kind == 1) = false := by rw [beq_eq_false_iff_ne]; omega
    have l1 : (kind != 1) = true := by rw [bne_iff_ne]; omega
    have k3 : (kind == 3) = false := by rw [beq_eq_false_iff_ne]; omega
    have l3 : (kind != 3) = true := by rw [bne_iff_ne]; omega
    have k4 : (kind == 4) = false := by rw [beq_eq_false_iff_ne]; omega
    have l4 : (kind != 4) = true := by rw [bne_iff_ne]; omega
    have HE := Aside0.mk (show finF ⟨r0, r1, r2, r3, r4, r5, r6, r7, pc, st, tr⟩ kind reg n = ⟨r0, r1, r2, r3, r4, r5, r6, r7, pc, st, tr⟩ from if_neg hk)
    clear hk
    go_enter Tryd.func12, Tryd.ntmps12
    go_wp2
    all_goals exact bodyPost_ret (v := .agg #[i64 r0, i64 r1, i64 r2, i64 r3, i64 r4, i64 r5, i64 r6, i64 r7, i64 pc, i64 st, i64 tr]) (by simp [results, Tryd.results12, go_sem]) rfl ⟨by rw [HE.out], (by (repeat (first | (with_reducible first | apply below_alloc | apply pw_below_drewN | apply below_drew1) | exact Below.refl _ _)))⟩
  have HE := Aside0.mk (show finF ⟨r0, r1, r2, r3, r4, r5, r6, r7, pc, st, tr⟩ kind reg n = (if reg = 8 then { (⟨r0, r1, r2, r3, r4, r5, r6, r7, pc, st, tr⟩ : Cpu) with pc := n } else if 0 ≤ reg ∧ reg < 8 then (⟨r0, r1, r2, r3, r4, r5, r6, r7, pc, st, tr⟩ : Cpu).set reg n else ⟨r0, r1, r2, r3, r4, r5, r6, r7, pc, st, tr⟩) from if_pos hk)
  by_cases h8 : reg = 8
  · subst h8
    rcases hk with rfl | rfl | rfl
    all_goals
      go_enter Tryd.func12, Tryd.ntmps12
      go_wp2
      all_goals exact bodyPost_ret (v := .agg #[i64 r0, i64 r1, i64 r2, i64 r3, i64 r4, i64 r5, i64 r6, i64 r7, i64 n, i64 st, i64 tr]) (by simp [results, Tryd.results12, go_sem]) rfl ⟨by rw [HE.out]; rfl, (by (repeat (first | (with_reducible first | apply below_alloc | apply pw_below_drewN | apply below_drew1) | exact Below.refl _ _)))⟩
  have e8 : (reg == 8) = false := beq_eq_false_iff_ne.mpr h8
  by_cases hr : 0 ≤ reg ∧ reg < 8
  · rcases hk with rfl | rfl | rfl
    all_goals
      rcases eightI reg hr.1 hr.2 with rfl | rfl | rfl | rfl | rfl | rfl | rfl | rfl
      · clear hr
        go_enter Tryd.func12, Tryd.ntmps12
        go_wp2
        all_goals exact bodyPost_ret (v := .agg #[i64 n, i64 r1, i64 r2, i64 r3, i64 r4, i64 r5, i64 r6, i64 r7, i64 pc, i64 st, i64 tr]) (by simp [results, Tryd.results12, go_sem]) rfl ⟨by rw [HE.out]; rfl, (by (repeat (first | (with_reducible first | apply below_alloc | apply pw_below_drewN | apply below_drew1) | exact Below.refl _ _)))⟩
      · clear hr
        go_enter Tryd.func12, Tryd.ntmps12
        go_wp2
        all_goals exact bodyPost_ret (v := .agg #[i64 r0, i64 n, i64 r2, i64 r3, i64 r4, i64 r5, i64 r6, i64 r7, i64 pc, i64 st, i64 tr]) (by simp [results, Tryd.results12, go_sem]) rfl ⟨by rw [HE.out]; rfl, (by (repeat (first | (with_reducible first | apply below_alloc | apply pw_below_drewN | apply below_drew1) | exact Below.refl _ _)))⟩
      · clear hr
        go_enter Tryd.func12, Tryd.ntmps12
        go_wp2
        all_goals exact bodyPost_ret (v := .agg #[i64 r0, i64 r1, i64 n, i64 r3, i64 r4, i64 r5, i64 r6, i64 r7, i64 pc, i64 st, i64 tr]) (by simp [results, Tryd.results12, go_sem]) rfl ⟨by rw [HE.out]; rfl, (by (repeat (first | (with_reducible first | apply below_alloc | apply pw_below_drewN | apply below_drew1) | exact Below.refl _ _)))⟩
      · clear hr
        go_enter Tryd.func12, Tryd.ntmps12
        go_wp2
        all_goals exact bodyPost_ret (v := .agg #[i64 r0, i64 r1, i64 r2, i64 n, i64 r4, i64 r5, i64 r6, i64 r7, i64 pc, i64 st, i64 tr]) (by simp [results, Tryd.results12, go_sem]) rfl ⟨by rw [HE.out]; rfl, (by (repeat (first | (with_reducible first | apply below_alloc | apply pw_below_drewN | apply below_drew1) | exact Below.refl _ _)))⟩
      · clear hr
        go_enter Tryd.func12, Tryd.ntmps12
        go_wp2
        all_goals exact bodyPost_ret (v := .agg #[i64 r0, i64 r1, i64 r2, i64 r3, i64 n, i64 r5, i64 r6, i64 r7, i64 pc, i64 st, i64 tr]) (by simp [results, Tryd.results12, go_sem]) rfl ⟨by rw [HE.out]; rfl, (by (repeat (first | (with_reducible first | apply below_alloc | apply pw_below_drewN | apply below_drew1) | exact Below.refl _ _)))⟩
      · clear hr
        go_enter Tryd.func12, Tryd.ntmps12
        go_wp2
        all_goals exact bodyPost_ret (v := .agg #[i64 r0, i64 r1, i64 r2, i64 r3, i64 r4, i64 n, i64 r6, i64 r7, i64 pc, i64 st, i64 tr]) (by simp [results, Tryd.results12, go_sem]) rfl ⟨by rw [HE.out]; rfl, (by (repeat (first | (with_reducible first | apply below_alloc | apply pw_below_drewN | apply below_drew1) | exact Below.refl _ _)))⟩
      · clear hr
        go_enter Tryd.func12, Tryd.ntmps12
        go_wp2
        all_goals exact bodyPost_ret (v := .agg #[i64 r0, i64 r1, i64 r2, i64 r3, i64 r4, i64 r5, i64 n, i64 r7, i64 pc, i64 st, i64 tr]) (by simp [results, Tryd.results12, go_sem]) rfl ⟨by rw [HE.out]; rfl, (by (repeat (first | (with_reducible first | apply below_alloc | apply pw_below_drewN | apply below_drew1) | exact Below.refl _ _)))⟩
      · clear hr
        go_enter Tryd.func12, Tryd.ntmps12
        go_wp2
        all_goals exact bodyPost_ret (v := .agg #[i64 r0, i64 r1, i64 r2, i64 r3, i64 r4, i64 r5, i64 r6, i64 n, i64 pc, i64 st, i64 tr]) (by simp [results, Tryd.results12, go_sem]) rfl ⟨by rw [HE.out]; rfl, (by (repeat (first | (with_reducible first | apply below_alloc | apply pw_below_drewN | apply below_drew1) | exact Below.refl _ _)))⟩
  · have HQ := Aside0.mk hr
    have HP := Aside0.mk h8
    rcases hk with rfl | rfl | rfl
    all_goals
      by_cases g : 0 ≤ reg
      · have g1 : decide (reg ≥ 0) = true := decide_eq_true g
        have g2 : decide (reg < 8) = false := decide_eq_false (by omega)
        clear hr g h8
        go_enter Tryd.func12, Tryd.ntmps12
        go_wp2
        all_goals exact bodyPost_ret (v := .agg #[i64 r0, i64 r1, i64 r2, i64 r3, i64 r4, i64 r5, i64 r6, i64 r7, i64 pc, i64 st, i64 tr]) (by simp [results, Tryd.results12, go_sem]) rfl ⟨by rw [HE.out, if_neg HP.out, if_neg HQ.out], (by (repeat (first | (with_reducible first | apply below_alloc | apply pw_below_drewN | apply below_drew1) | exact Below.refl _ _)))⟩
      · have g1 : decide (reg ≥ 0) = false := decide_eq_false g
        clear hr g h8
        go_enter Tryd.func12, Tryd.ntmps12
        go_wp2
        all_goals exact bodyPost_ret (v := .agg #[i64 r0, i64 r1, i64 r2, i64 r3, i64 r4, i64 r5, i64 r6, i64 r7, i64 pc, i64 st, i64 tr]) (by simp [results, Tryd.results12, go_sem]) rfl ⟨by rw [HE.out, if_neg HP.out, if_neg HQ.out], (by (repeat (first | (with_reducible first | apply below_alloc | apply pw_below_drewN | apply below_drew1) | exact Below.refl _ _)))⟩
end Go.Proofs.YtjlfjkpbooholaaDoor.M
