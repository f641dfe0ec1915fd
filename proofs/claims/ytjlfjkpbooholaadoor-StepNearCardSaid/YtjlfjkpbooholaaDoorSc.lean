/-
  Layer 4: package step's Start where it writes a register. Conditions: the fields may be.
-/
import Derived.Test.YtjlfjkpbooholaaDoorK
import Derived.Deep.RegionWith
import Derived.Deep.QuietTactic
import Derived.BigQuiet
import Derived.StillTailTactics
namespace Go.Proofs.YtjlfjkpbooholaaDoor.M
open Go.RowKit Go.Proofs.YtjlfjkpbooholaaDoorW.PrintWords Go.Proofs.YtjlfjkpbooholaaDoorW.PrintLast
set_option linter.unusedSimpArgs false
set_option linter.unusedVariables false
attribute [local go_sem] min_ints max_ints setCell_drewN alloc_drewN
set_option maxRecDepth 100000 in
set_option maxHeartbeats 4000000 in
theorem start_1 (c : Cpu) (a b n size sz : Int) (k : Nat) (w : World) (hG : Glob w) (hs : ins_Size.f k 1 = some sz) (hz : sz ≠ 0) (hst : c.st = 0) (ha0 : 0 ≤ a) (ha : a < 8) (hb0 : 0 ≤ b) (hb : b < 8) :
    Calls Tryd.prog 9 #[c.v, ins 1 a b n, i64 size] w fun e w' => e = .returned (.tuple #[(startOk c 1 a b n size (0, 0)).1.v, (startOk c 1 a b n size (0, 0)).2.v]) ∧ Below w.heap.size w w' := by
  have HG := Aside0.mk hG
  have A := Aside0.mk hs
  clear hG hs
  have e2 : (sz == 0) = false := beq_eq_false_iff_ne.mpr hz
  have e3 : decide (mn a b < 0) = false := decide_eq_false (by unfold mn; split <;> omega)
  have e4 : decide (mx a b ≥ 8) = false := decide_eq_false (by unfold mx; split <;> omega)
  clear hz
  obtain ⟨r0, r1, r2, r3, r4, r5, r6, r7, pc, st, tr⟩ := c
  subst hst
  clear hb0 hb
  rcases eightI a ha0 ha with rfl | rfl | rfl | rfl | rfl | rfl | rfl | rfl
  · go_enter Tryd.func9, Tryd.ntmps9
    go_wp2_with (first | (go_at_call 14; (with_reducible refine (size_go k _ _ w _ HG A (by (repeat (first | (with_reducible first | apply below_alloc | apply pw_below_drewN | apply below_drew1) | exact Below.refl _ _)))).mono ?_); rintro e w' ⟨rfl, ⟨nd, rfl⟩⟩))
    go_region
    go_wp2
    all_goals exact bodyPost_ret (v := .tuple #[.agg #[i64 (n), i64 (r1), i64 (r2), i64 (r3), i64 (r4), i64 (r5), i64 (r6), i64 (r7), i64 (wrap64 (pc + size)), i64 (0), i64 (tr)], .agg #[i64 (0), i64 (0), i64 (0), i64 (0)]]) (by simp [results, Tryd.results9, go_sem]) rfl ⟨by simp [startOk, Cpu.set], (by (repeat (first | (with_reducible first | apply below_alloc | apply pw_below_drewN | apply below_drew1) | exact Below.refl _ _)))⟩
  · go_enter Tryd.func9, Tryd.ntmps9
    go_wp2_with (first | (go_at_call 14; (with_reducible refine (size_go k _ _ w _ HG A (by (repeat (first | (with_reducible first | apply below_alloc | apply pw_below_drewN | apply below_drew1) | exact Below.refl _ _)))).mono ?_); rintro e w' ⟨rfl, ⟨nd, rfl⟩⟩))
    go_region
    go_wp2
    all_goals exact bodyPost_ret (v := .tuple #[.agg #[i64 (r0), i64 (n), i64 (r2), i64 (r3), i64 (r4), i64 (r5), i64 (r6), i64 (r7), i64 (wrap64 (pc + size)), i64 (0), i64 (tr)], .agg #[i64 (0), i64 (0), i64 (0), i64 (0)]]) (by simp [results, Tryd.results9, go_sem]) rfl ⟨by simp [startOk, Cpu.set], (by (repeat (first | (with_reducible first | apply below_alloc | apply pw_below_drewN | apply below_drew1) | exact Below.refl _ _)))⟩
  · go_enter Tryd.func9, Tryd.ntmps9
    go_wp2_with (first | (go_at_call 14; (with_reducible refine (size_go k _ _ w _ HG A (by (repeat (first | (with_reducible first | apply below_alloc | apply pw_below_drewN | apply below_drew1) | exact Below.refl _ _)))).mono ?_); rintro e w' ⟨rfl, ⟨nd, rfl⟩⟩))
    go_region
    go_wp2
    all_goals exact bodyPost_ret (v := .tuple #[.agg #[i64 (r0), i64 (r1), i64 (n), i64 (r3), i64 (r4), i64 (r5), i64 (r6), i64 (r7), i64 (wrap64 (pc + size)), i64 (0), i64 (tr)], .agg #[i64 (0), i64 (0), i64 (0), i64 (0)]]) (by simp [results, Tryd.results9, go_sem]) rfl ⟨by simp [startOk, Cpu.set], (by (repeat (first | (with_reducible first | apply below_alloc | apply pw_below_drewN | apply below_drew1) | exact Below.refl _ _)))⟩
  · go_enter Tryd.func9, Tryd.ntmps9
    go_wp2_with (first | (go_at_call 14; (with_reducible refine (size_go k _ _ w _ HG A (by (repeat (first | (with_reducible first | apply below_alloc | apply pw_below_drewN | apply below_drew1) | exact Below.refl _ _)))).mono ?_); rintro e w' ⟨rfl, ⟨nd, rfl⟩⟩))
    go_region
    go_wp2
    all_goals exact bodyPost_ret (v := .tuple #[.agg #[i64 (r0), i64 (r1), i64 (r2), i64 (n), i64 (r4), i64 (r5), i64 (r6), i64 (r7), i64 (wrap64 (pc + size)), i64 (0), i64 (tr)], .agg #[i64 (0), i64 (0), i64 (0), i64 (0)]]) (by simp [results, Tryd.results9, go_sem]) rfl ⟨by simp [startOk, Cpu.set], (by (repeat (first | (with_reducible first | apply below_alloc | apply pw_below_drewN | apply below_drew1) | exact Below.refl _ _)))⟩
  · go_enter Tryd.func9, Tryd.ntmps9
    go_wp2_with (first | (go_at_call 14; (with_reducible refine (size_go k _ _ w _ HG A (by (repeat (first | (with_reducible first | apply below_alloc | apply pw_below_drewN | apply below_drew1) | exact Below.refl _ _)))).mono ?_); rintro e w' ⟨rfl, ⟨nd, rfl⟩⟩))
    go_region
    go_wp2
    all_goals exact bodyPost_ret (v := .tuple #[.agg #[i64 (r0), i64 (r1), i64 (r2), i64 (r3), i64 (n), i64 (r5), i64 (r6), i64 (r7), i64 (wrap64 (pc + size)), i64 (0), i64 (tr)], .agg #[i64 (0), i64 (0), i64 (0), i64 (0)]]) (by simp [results, Tryd.results9, go_sem]) rfl ⟨by simp [startOk, Cpu.set], (by (repeat (first | (with_reducible first | apply below_alloc | apply pw_below_drewN | apply below_drew1) | exact Below.refl _ _)))⟩
  · go_enter Tryd.func9, Tryd.ntmps9
    go_wp2_with (first | (go_at_call 14; (with_reducible refine (size_go k _ _ w _ HG A (by (repeat (first | (with_reducible first | apply below_alloc | apply pw_below_drewN | apply below_drew1) | exact Below.refl _ _)))).mono ?_); rintro e w' ⟨rfl, ⟨nd, rfl⟩⟩))
    go_region
    go_wp2
    all_goals exact bodyPost_ret (v := .tuple #[.agg #[i64 (r0), i64 (r1), i64 (r2), i64 (r3), i64 (r4), i64 (n), i64 (r6), i64 (r7), i64 (wrap64 (pc + size)), i64 (0), i64 (tr)], .agg #[i64 (0), i64 (0), i64 (0), i64 (0)]]) (by simp [results, Tryd.results9, go_sem]) rfl ⟨by simp [startOk, Cpu.set], (by (repeat (first | (with_reducible first | apply below_alloc | apply pw_below_drewN | apply below_drew1) | exact Below.refl _ _)))⟩
  · go_enter Tryd.func9, Tryd.ntmps9
    go_wp2_with (first | (go_at_call 14; (with_reducible refine (size_go k _ _ w _ HG A (by (repeat (first | (with_reducible first | apply below_alloc | apply pw_below_drewN | apply below_drew1) | exact Below.refl _ _)))).mono ?_); rintro e w' ⟨rfl, ⟨nd, rfl⟩⟩))
    go_region
    go_wp2
    all_goals exact bodyPost_ret (v := .tuple #[.agg #[i64 (r0), i64 (r1), i64 (r2), i64 (r3), i64 (r4), i64 (r5), i64 (n), i64 (r7), i64 (wrap64 (pc + size)), i64 (0), i64 (tr)], .agg #[i64 (0), i64 (0), i64 (0), i64 (0)]]) (by simp [results, Tryd.results9, go_sem]) rfl ⟨by simp [startOk, Cpu.set], (by (repeat (first | (with_reducible first | apply below_alloc | apply pw_below_drewN | apply below_drew1) | exact Below.refl _ _)))⟩
  · go_enter Tryd.func9, Tryd.ntmps9
    go_wp2_with (first | (go_at_call 14; (with_reducible refine (size_go k _ _ w _ HG A (by (repeat (first | (with_reducible first | apply below_alloc | apply pw_below_drewN | apply below_drew1) | exact Below.refl _ _)))).mono ?_); rintro e w' ⟨rfl, ⟨nd, rfl⟩⟩))
    go_region
    go_wp2
    all_goals exact bodyPost_ret (v := .tuple #[.agg #[i64 (r0), i64 (r1), i64 (r2), i64 (r3), i64 (r4), i64 (r5), i64 (r6), i64 (n), i64 (wrap64 (pc + size)), i64 (0), i64 (tr)], .agg #[i64 (0), i64 (0), i64 (0), i64 (0)]]) (by simp [results, Tryd.results9, go_sem]) rfl ⟨by simp [startOk, Cpu.set], (by (repeat (first | (with_reducible first | apply below_alloc | apply pw_below_drewN | apply below_drew1) | exact Below.refl _ _)))⟩

set_option maxRecDepth 100000 in
set_option maxHeartbeats 4000000 in
theorem start_19 (c : Cpu) (a b n size sz : Int) (k : Nat) (w : World) (hG : Glob w) (hs : ins_Size.f k 19 = some sz) (hz : sz ≠ 0) (hst : c.st = 0) (ha0 : 0 ≤ a) (ha : a < 8) (hb0 : 0 ≤ b) (hb : b < 8) :
    Calls Tryd.prog 9 #[c.v, ins 19 a b n, i64 size] w fun e w' => e = .returned (.tuple #[(startOk c 19 a b n size (0, 0)).1.v, (startOk c 19 a b n size (0, 0)).2.v]) ∧ Below w.heap.size w w' := by
  have HG := Aside0.mk hG
  have A := Aside0.mk hs
  clear hG hs
  have e2 : (sz == 0) = false := beq_eq_false_iff_ne.mpr hz
  have e3 : decide (mn a b < 0) = false := decide_eq_false (by unfold mn; split <;> omega)
  have e4 : decide (mx a b ≥ 8) = false := decide_eq_false (by unfold mx; split <;> omega)
  clear hz
  obtain ⟨r0, r1, r2, r3, r4, r5, r6, r7, pc, st, tr⟩ := c
  subst hst
  clear hb0 hb
  rcases eightI a ha0 ha with rfl | rfl | rfl | rfl | rfl | rfl | rfl | rfl
  · go_enter Tryd.func9, Tryd.ntmps9
    go_wp2_with (first | (go_at_call 14; (with_reducible refine (size_go k _ _ w _ HG A (by (repeat (first | (with_reducible first | apply below_alloc | apply pw_below_drewN | apply below_drew1) | exact Below.refl _ _)))).mono ?_); rintro e w' ⟨rfl, ⟨nd, rfl⟩⟩))
    go_region
    go_wp2
    all_goals exact bodyPost_ret (v := .tuple #[.agg #[i64 (n), i64 (r1), i64 (r2), i64 (r3), i64 (r4), i64 (r5), i64 (r6), i64 (r7), i64 (wrap64 (pc + size)), i64 (0), i64 (tr)], .agg #[i64 (0), i64 (0), i64 (0), i64 (0)]]) (by simp [results, Tryd.results9, go_sem]) rfl ⟨by simp [startOk, Cpu.set], (by (repeat (first | (with_reducible first | apply below_alloc | apply pw_below_drewN | apply below_drew1) | exact Below.refl _ _)))⟩
  · go_enter Tryd.func9, Tryd.ntmps9
    go_wp2_with (first | (go_at_call 14; (with_reducible refine (size_go k _ _ w _ HG A (by (repeat (first | (with_reducible first | apply below_alloc | apply pw_below_drewN | apply below_drew1) | exact Below.refl _ _)))).mono ?_); rintro e w' ⟨rfl, ⟨nd, rfl⟩⟩))
    go_region
    go_wp2
    all_goals exact bodyPost_ret (v := .tuple #[.agg #[i64 (r0), i64 (n), i64 (r2), i64 (r3), i64 (r4), i64 (r5), i64 (r6), i64 (r7), i64 (wrap64 (pc + size)), i64 (0), i64 (tr)], .agg #[i64 (0), i64 (0), i64 (0), i64 (0)]]) (by simp [results, Tryd.results9, go_sem]) rfl ⟨by simp [startOk, Cpu.set], (by (repeat (first | (with_reducible first | apply below_alloc | apply pw_below_drewN | apply below_drew1) | exact Below.refl _ _)))⟩
  · go_enter Tryd.func9, Tryd.ntmps9
    go_wp2_with (first | (go_at_call 14; (with_reducible refine (size_go k _ _ w _ HG A (by (repeat (first | (with_reducible first | apply below_alloc | apply pw_below_drewN | apply below_drew1) | exact Below.refl _ _)))).mono ?_); rintro e w' ⟨rfl, ⟨nd, rfl⟩⟩))
    go_region
    go_wp2
    all_goals exact bodyPost_ret (v := .tuple #[.agg #[i64 (r0), i64 (r1), i64 (n), i64 (r3), i64 (r4), i64 (r5), i64 (r6), i64 (r7), i64 (wrap64 (pc + size)), i64 (0), i64 (tr)], .agg #[i64 (0), i64 (0), i64 (0), i64 (0)]]) (by simp [results, Tryd.results9, go_sem]) rfl ⟨by simp [startOk, Cpu.set], (by (repeat (first | (with_reducible first | apply below_alloc | apply pw_below_drewN | apply below_drew1) | exact Below.refl _ _)))⟩
  · go_enter Tryd.func9, Tryd.ntmps9
    go_wp2_with (first | (go_at_call 14; (with_reducible refine (size_go k _ _ w _ HG A (by (repeat (first | (with_reducible first | apply below_alloc | apply pw_below_drewN | apply below_drew1) | exact Below.refl _ _)))).mono ?_); rintro e w' ⟨rfl, ⟨nd, rfl⟩⟩))
    go_region
    go_wp2
    all_goals exact bodyPost_ret (v := .tuple #[.agg #[i64 (r0), i64 (r1), i64 (r2), i64 (n), i64 (r4), i64 (r5), i64 (r6), i64 (r7), i64 (wrap64 (pc + size)), i64 (0), i64 (tr)], .agg #[i64 (0), i64 (0), i64 (0), i64 (0)]]) (by simp [results, Tryd.results9, go_sem]) rfl ⟨by simp [startOk, Cpu.set], (by (repeat (first | (with_reducible first | apply below_alloc | apply pw_below_drewN | apply below_drew1) | exact Below.refl _ _)))⟩
  · go_enter Tryd.func9, Tryd.ntmps9
    go_wp2_with (first | (go_at_call 14; (with_reducible refine (size_go k _ _ w _ HG A (by (repeat (first | (with_reducible first | apply below_alloc | apply pw_below_drewN | apply below_drew1) | exact Below.refl _ _)))).mono ?_); rintro e w' ⟨rfl, ⟨nd, rfl⟩⟩))
    go_region
    go_wp2
    all_goals exact bodyPost_ret (v := .tuple #[.agg #[i64 (r0), i64 (r1), i64 (r2), i64 (r3), i64 (n), i64 (r5), i64 (r6), i64 (r7), i64 (wrap64 (pc + size)), i64 (0), i64 (tr)], .agg #[i64 (0), i64 (0), i64 (0), i64 (0)]]) (by simp [results, Tryd.results9, go_sem]) rfl ⟨by simp [startOk, Cpu.set], (by (repeat (first | (with_reducible first | apply below_alloc | apply pw_below_drewN | apply below_drew1) | exact Below.refl _ _)))⟩
  · go_enter Tryd.func9, Tryd.ntmps9
    go_wp2_with (first | (go_at_call 14; (with_reducible refine (size_go k _ _ w _ HG A (by (repeat (first | (with_reducible first | apply below_alloc | apply pw_below_drewN | apply below_drew1) | exact Below.refl _ _)))).mono ?_); rintro e w' ⟨rfl, ⟨nd, rfl⟩⟩))
    go_region
    go_wp2
    all_goals exact bodyPost_ret (v := .tuple #[.agg #[i64 (r0), i64 (r1), i64 (r2), i64 (r3), i64 (r4), i64 (n), i64 (r6), i64 (r7), i64 (wrap64 (pc + size)), i64 (0), i64 (tr)], .agg #[i64 (0), i64 (0), i64 (0), i64 (0)]]) (by simp [results, Tryd.results9, go_sem]) rfl ⟨by simp [startOk, Cpu.set], (by (repeat (first | (with_reducible first | apply below_alloc | apply pw_below_drewN | apply below_drew1) | exact Below.refl _ _)))⟩
  · go_enter Tryd.func9, Tryd.ntmps9
    go_wp2_with (first | (go_at_call 14; (with_reducible refine (size_go k _ _ w _ HG A (by (repeat (first | (with_reducible first | apply below_alloc | apply pw_below_drewN | apply below_drew1) | exact Below.refl _ _)))).mono ?_); rintro e w' ⟨rfl, ⟨nd, rfl⟩⟩))
    go_region
    go_wp2
    all_goals exact bodyPost_ret (v := .tuple #[.agg #[i64 (r0), i64 (r1), i64 (r2), i64 (r3), i64 (r4), i64 (r5), i64 (n), i64 (r7), i64 (wrap64 (pc + size)), i64 (0), i64 (tr)], .agg #[i64 (0), i64 (0), i64 (0), i64 (0)]]) (by simp [results, Tryd.results9, go_sem]) rfl ⟨by simp [startOk, Cpu.set], (by (repeat (first | (with_reducible first | apply below_alloc | apply pw_below_drewN | apply below_drew1) | exact Below.refl _ _)))⟩
  · go_enter Tryd.func9, Tryd.ntmps9
    go_wp2_with (first | (go_at_call 14; (with_reducible refine (size_go k _ _ w _ HG A (by (repeat (first | (with_reducible first | apply below_alloc | apply pw_below_drewN | apply below_drew1) | exact Below.refl _ _)))).mono ?_); rintro e w' ⟨rfl, ⟨nd, rfl⟩⟩))
    go_region
    go_wp2
    all_goals exact bodyPost_ret (v := .tuple #[.agg #[i64 (r0), i64 (r1), i64 (r2), i64 (r3), i64 (r4), i64 (r5), i64 (r6), i64 (n), i64 (wrap64 (pc + size)), i64 (0), i64 (tr)], .agg #[i64 (0), i64 (0), i64 (0), i64 (0)]]) (by simp [results, Tryd.results9, go_sem]) rfl ⟨by simp [startOk, Cpu.set], (by (repeat (first | (with_reducible first | apply below_alloc | apply pw_below_drewN | apply below_drew1) | exact Below.refl _ _)))⟩

set_option maxRecDepth 100000 in
set_option maxHeartbeats 4000000 in
theorem start_2 (c : Cpu) (a b n size sz : Int) (k : Nat) (w : World) (hG : Glob w) (hs : ins_Size.f k 2 = some sz) (hz : sz ≠ 0) (hst : c.st = 0) (ha0 : 0 ≤ a) (ha : a < 8) (hb0 : 0 ≤ b) (hb : b < 8) :
    Calls Tryd.prog 9 #[c.v, ins 2 a b n, i64 size] w fun e w' => e = .returned (.tuple #[(startOk c 2 a b n size (0, 0)).1.v, (startOk c 2 a b n size (0, 0)).2.v]) ∧ Below w.heap.size w w' := by
  have HG := Aside0.mk hG
  have A := Aside0.mk hs
  clear hG hs
  have e2 : (sz == 0) = false := beq_eq_false_iff_ne.mpr hz
  have e3 : decide (mn a b < 0) = false := decide_eq_false (by unfold mn; split <;> omega)
  have e4 : decide (mx a b ≥ 8) = false := decide_eq_false (by unfold mx; split <;> omega)
  clear hz
  obtain ⟨r0, r1, r2, r3, r4, r5, r6, r7, pc, st, tr⟩ := c
  subst hst
  obtain ⟨b, rfl⟩ := Int.eq_ofNat_of_zero_le hb0
  have hb' : b < 8 := by omega
  have hbI : (b : Int) < 8 := by omega
  have hbJ : (0 : Int) ≤ (b : Int) := by omega
  have hB := at8 r0 r1 r2 r3 r4 r5 r6 r7 pc 0 tr b hb'
  generalize hgb : (⟨r0, r1, r2, r3, r4, r5, r6, r7, pc, 0, tr⟩ : Cpu).get b = gb at hB
  clear hb0 hb
  rcases eightI a ha0 ha with rfl | rfl | rfl | rfl | rfl | rfl | rfl | rfl
  · go_enter Tryd.func9, Tryd.ntmps9
    go_wp2_with (first | (go_at_call 14; (with_reducible refine (size_go k _ _ w _ HG A (by (repeat (first | (with_reducible first | apply below_alloc | apply pw_below_drewN | apply below_drew1) | exact Below.refl _ _)))).mono ?_); rintro e w' ⟨rfl, ⟨nd, rfl⟩⟩))
    refine region_tail 8 (by kernel_rfl) (by kernel_rfl) ?_
    simp only [List.take_succ_cons, List.take_zero, List.drop_succ_cons, List.drop_zero]
    repeat still_step
    refine wpStill_nil ?_
    go_wp2
    go_region
    go_wp2
    all_goals exact bodyPost_ret (v := .tuple #[.agg #[i64 (gb), i64 (r1), i64 (r2), i64 (r3), i64 (r4), i64 (r5), i64 (r6), i64 (r7), i64 (wrap64 (pc + size)), i64 (0), i64 (tr)], .agg #[i64 (0), i64 (0), i64 (0), i64 (0)]]) (by simp [results, Tryd.results9, go_sem]) rfl ⟨by simp [startOk, Cpu.set, hgb], (by (repeat (first | (with_reducible first | apply below_alloc | apply pw_below_drewN | apply below_drew1) | exact Below.refl _ _)))⟩
  · go_enter Tryd.func9, Tryd.ntmps9
    go_wp2_with (first | (go_at_call 14; (with_reducible refine (size_go k _ _ w _ HG A (by (repeat (first | (with_reducible first | apply below_alloc | apply pw_below_drewN | apply below_drew1) | exact Below.refl _ _)))).mono ?_); rintro e w' ⟨rfl, ⟨nd, rfl⟩⟩))
    refine region_tail 8 (by kernel_rfl) (by kernel_rfl) ?_
    simp only [List.take_succ_cons, List.take_zero, List.drop_succ_cons, List.drop_zero]
    repeat still_step
    refine wpStill_nil ?_
    go_wp2
    go_region
    go_wp2
    all_goals exact bodyPost_ret (v := .tuple #[.agg #[i64 (r0), i64 (gb), i64 (r2), i64 (r3), i64 (r4), i64 (r5), i64 (r6), i64 (r7), i64 (wrap64 (pc + size)), i64 (0), i64 (tr)], .agg #[i64 (0), i64 (0), i64 (0), i64 (0)]]) (by simp [results, Tryd.results9, go_sem]) rfl ⟨by simp [startOk, Cpu.set, hgb], (by (repeat (first | (with_reducible first | apply below_alloc | apply pw_below_drewN | apply below_drew1) | exact Below.refl _ _)))⟩
  · go_enter Tryd.func9, Tryd.ntmps9
    go_wp2_with (first | (go_at_call 14; (with_reducible refine (size_go k _ _ w _ HG A (by (repeat (first | (with_reducible first | apply below_alloc | apply pw_below_drewN | apply below_drew1) | exact Below.refl _ _)))).mono ?_); rintro e w' ⟨rfl, ⟨nd, rfl⟩⟩))
    refine region_tail 8 (by kernel_rfl) (by kernel_rfl) ?_
    simp only [List.take_succ_cons, List.take_zero, List.drop_succ_cons, List.drop_zero]
    repeat still_step
    refine wpStill_nil ?_
    go_wp2
    go_region
    go_wp2
    all_goals exact bodyPost_ret (v := .tuple #[.agg #[i64 (r0), i64 (r1), i64 (gb), i64 (r3), i64 (r4), i64 (r5), i64 (r6), i64 (r7), i64 (wrap64 (pc + size)), i64 (0), i64 (tr)], .agg #[i64 (0), i64 (0), i64 (0), i64 (0)]]) (by simp [results, Tryd.results9, go_sem]) rfl ⟨by simp [startOk, Cpu.set, hgb], (by (repeat (first | (with_reducible first | apply below_alloc | apply pw_below_drewN | apply below_drew1) | exact Below.refl _ _)))⟩
  · go_enter Tryd.func9, Tryd.ntmps9
    go_wp2_with (first | (go_at_call 14; (with_reducible refine (size_go k _ _ w _ HG A (by (repeat (first | (with_reducible first | apply below_alloc | apply pw_below_drewN | apply below_drew1) | exact Below.refl _ _)))).mono ?_); rintro e w' ⟨rfl, ⟨nd, rfl⟩⟩))
    refine region_tail 8 (by kernel_rfl) (by kernel_rfl) ?_
    simp only [List.take_succ_cons, List.take_zero, List.drop_succ_cons, List.drop_zero]
    repeat still_step
    refine wpStill_nil ?_
    go_wp2
    go_region
    go_wp2
    all_goals exact bodyPost_ret (v := .tuple #[.agg #[i64 (r0), i64 (r1), i64 (r2), i64 (gb), i64 (r4), i64 (r5), i64 (r6), i64 (r7), i64 (wrap64 (pc + size)), i64 (0), i64 (tr)], .agg #[i64 (0), i64 (0), i64 (0), i64 (0)]]) (by simp [results, Tryd.results9, go_sem]) rfl ⟨by simp [startOk, Cpu.set, hgb], (by (repeat (first | (with_reducible first | apply below_alloc | apply pw_below_drewN | apply below_drew1) | exact Below.refl _ _)))⟩
  · go_enter Tryd.func9, Tryd.ntmps9
    go_wp2_with (first | (go_at_call 14; (with_reducible refine (size_go k _ _ w _ HG A (by (repeat (first | (with_reducible first | apply below_alloc | apply pw_below_drewN | apply below_drew1) | exact Below.refl _ _)))).mono ?_); rintro e w' ⟨rfl, ⟨nd, rfl⟩⟩))
    refine region_tail 8 (by kernel_rfl) (by kernel_rfl) ?_
    simp only [List.take_succ_cons, List.take_zero, List.drop_succ_cons, List.drop_zero]
    repeat still_step
    refine wpStill_nil ?_
    go_wp2
    go_region
    go_wp2
    all_goals exact bodyPost_ret (v := .tuple #[.agg #[i64 (r0), i64 (r1), i64 (r2), i64 (r3), i64 (gb), i64 (r5), i64 (r6), i64 (r7), i64 (wrap64 (pc + size)), i64 (0), i64 (tr)], .agg #[i64 (0), i64 (0), i64 (0), i64 (0)]]) (by simp [results, Tryd.results9, go_sem]) rfl ⟨by simp [startOk, Cpu.set, hgb], (by (repeat (first | (with_reducible first | apply below_alloc | apply pw_below_drewN | apply below_drew1) | exact Below.refl _ _)))⟩
  · go_enter Tryd.func9, Tryd.ntmps9
    go_wp2_with (first | (go_at_call 14; (with_reducible refine (size_go k _ _ w _ HG A (by (repeat (first | (with_reducible first | apply below_alloc | apply pw_below_drewN | apply below_drew1) | exact Below.refl _ _)))).mono ?_); rintro e w' ⟨rfl, ⟨nd, rfl⟩⟩))
    refine region_tail 8 (by kernel_rfl) (by kernel_rfl) ?_
    simp only [List.take_succ_cons, List.take_zero, List.drop_succ_cons, List.drop_zero]
    repeat still_step
    refine wpStill_nil ?_
    go_wp2
    go_region
    go_wp2
    all_goals exact bodyPost_ret (v := .tuple #[.agg #[i64 (r0), i64 (r1), i64 (r2), i64 (r3), i64 (r4), i64 (gb), i64 (r6), i64 (r7), i64 (wrap64 (pc + size)), i64 (0), i64 (tr)], .agg #[i64 (0), i64 (0), i64 (0), i64 (0)]]) (by simp [results, Tryd.results9, go_sem]) rfl ⟨by simp [startOk, Cpu.set, hgb], (by (repeat (first | (with_reducible first | apply below_alloc | apply pw_below_drewN | apply below_drew1) | exact Below.refl _ _)))⟩
  · go_enter Tryd.func9, Tryd.ntmps9
    go_wp2_with (first | (go_at_call 14; (with_reducible refine (size_go k _ _ w _ HG A (by (repeat (first | (with_reducible first | apply below_alloc | apply pw_below_drewN | apply below_drew1) | exact Below.refl _ _)))).mono ?_); rintro e w' ⟨rfl, ⟨nd, rfl⟩⟩))
    refine region_tail 8 (by kernel_rfl) (by kernel_rfl) ?_
    simp only [List.take_succ_cons, List.take_zero, List.drop_succ_cons, List.drop_zero]
    repeat still_step
    refine wpStill_nil ?_
    go_wp2
    go_region
    go_wp2
    all_goals exact bodyPost_ret (v := .tuple #[.agg #[i64 (r0), i64 (r1), i64 (r2), i64 (r3), i64 (r4), i64 (r5), i64 (gb), i64 (r7), i64 (wrap64 (pc + size)), i64 (0), i64 (tr)], .agg #[i64 (0), i64 (0), i64 (0), i64 (0)]]) (by simp [results, Tryd.results9, go_sem]) rfl ⟨by simp [startOk, Cpu.set, hgb], (by (repeat (first | (with_reducible first | apply below_alloc | apply pw_below_drewN | apply below_drew1) | exact Below.refl _ _)))⟩
  · go_enter Tryd.func9, Tryd.ntmps9
    go_wp2_with (first | (go_at_call 14; (with_reducible refine (size_go k _ _ w _ HG A (by (repeat (first | (with_reducible first | apply below_alloc | apply pw_below_drewN | apply below_drew1) | exact Below.refl _ _)))).mono ?_); rintro e w' ⟨rfl, ⟨nd, rfl⟩⟩))
    refine region_tail 8 (by kernel_rfl) (by kernel_rfl) ?_
    simp only [List.take_succ_cons, List.take_zero, List.drop_succ_cons, List.drop_zero]
    repeat still_step
    refine wpStill_nil ?_
    go_wp2
    go_region
    go_wp2
    all_goals exact bodyPost_ret (v := .tuple #[.agg #[i64 (r0), i64 (r1), i64 (r2), i64 (r3), i64 (r4), i64 (r5), i64 (r6), i64 (gb), i64 (wrap64 (pc + size)), i64 (0), i64 (tr)], .agg #[i64 (0), i64 (0), i64 (0), i64 (0)]]) (by simp [results, Tryd.results9, go_sem]) rfl ⟨by simp [startOk, Cpu.set, hgb], (by (repeat (first | (with_reducible first | apply below_alloc | apply pw_below_drewN | apply below_drew1) | exact Below.refl _ _)))⟩
end Go.Proofs.YtjlfjkpbooholaaDoor.M
