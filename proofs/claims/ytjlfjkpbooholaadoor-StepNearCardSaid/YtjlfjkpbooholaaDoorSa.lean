/-
  Layer 4: package step's Start, instruction by instruction, first part. Conditions: the fields may be.
-/
import Derived.Test.YtjlfjkpbooholaaDoorK
import Derived.Deep.RegionWith
import Derived.Deep.QuietTactic
import Derived.BigQuiet
import Derived.StillTailTactics
namespace Go.Proofs.YtjlfjkpbooholaaDoor.M
open Go.RowKit Go.Proofs.YtjlfjkpbooholaaDoorW.PrintWords Go.Proofs.YtjlfjkpbooholaaDoorW.PrintLast
set_option linter.unusedSimpArgs false
set_option linter.unusedVariables false
attribute [local go_sem] min_ints max_ints setCell_drewN alloc_drewN
set_option maxRecDepth 100000 in
set_option maxHeartbeats 4000000 in
theorem start_17 (c : Cpu) (a b n size sz : Int) (k : Nat) (w : World) (hG : Glob w) (hs : ins_Size.f k 17 = some sz) (hz : sz ≠ 0) (hst : c.st = 0) (ha0 : 0 ≤ a) (ha : a < 8) (hb0 : 0 ≤ b) (hb : b < 8) :
    Calls Tryd.prog 9 #[c.v, ins 17 a b n, i64 size] w fun e w' => e = .returned (.tuple #[(startOk c 17 a b n size (0, 0)).1.v, (startOk c 17 a b n size (0, 0)).2.v]) ∧ Below w.heap.size w w' := by
  have HG := Aside0.mk hG
  have A := Aside0.mk hs
  clear hG hs
  have e2 : (sz == 0) = false := beq_eq_false_iff_ne.mpr hz
  have e3 : decide (mn a b < 0) = false := decide_eq_false (by unfold mn; split <;> omega)
  have e4 : decide (mx a b ≥ 8) = false := decide_eq_false (by unfold mx; split <;> omega)
  clear hz
  obtain ⟨r0, r1, r2, r3, r4, r5, r6, r7, pc, st, tr⟩ := c
  subst hst
  obtain ⟨a, rfl⟩ := Int.eq_ofNat_of_zero_le ha0
  have ha' : a < 8 := by omega
  have haI : (a : Int) < 8 := by omega
  have haJ : (0 : Int) ≤ (a : Int) := by omega
  have hA := at8 r0 r1 r2 r3 r4 r5 r6 r7 pc 0 tr a ha'
  generalize hga : (⟨r0, r1, r2, r3, r4, r5, r6, r7, pc, 0, tr⟩ : Cpu).get a = ga at hA
  obtain ⟨b, rfl⟩ := Int.eq_ofNat_of_zero_le hb0
  have hb' : b < 8 := by omega
  have hbI : (b : Int) < 8 := by omega
  have hbJ : (0 : Int) ≤ (b : Int) := by omega
  have hB := at8 r0 r1 r2 r3 r4 r5 r6 r7 pc 0 tr b hb'
  generalize hgb : (⟨r0, r1, r2, r3, r4, r5, r6, r7, pc, 0, tr⟩ : Cpu).get b = gb at hB
  clear ha0 ha hb0 hb
  go_enter Tryd.func9, Tryd.ntmps9
  go_wp2_with (first | (go_at_call 14; (with_reducible refine (size_go k _ _ w _ HG A (by (repeat (first | (with_reducible first | apply below_alloc | apply pw_below_drewN | apply below_drew1) | exact Below.refl _ _)))).mono ?_); rintro e w' ⟨rfl, ⟨nd, rfl⟩⟩))
  refine region_tail 9 (by kernel_rfl) (by kernel_rfl) ?_
  simp only [List.take_succ_cons, List.take_zero, List.drop_succ_cons, List.drop_zero]
  repeat still_step
  still_call (at_c _ b n gb _ hb' (by go_simp))
  repeat still_step
  refine wpStill_nil ?_
  go_wp2
  go_region
  go_wp2
  all_goals exact bodyPost_ret (v := .tuple #[.agg #[i64 (r0), i64 (r1), i64 (r2), i64 (r3), i64 (r4), i64 (r5), i64 (r6), i64 (r7), i64 (wrap64 (pc + size)), i64 (0), i64 (tr)], .agg #[i64 (1), i64 (wrap64 (gb + n)), i64 (0), i64 (a)]]) (by simp [results, Tryd.results9, go_sem]) rfl ⟨by simp [startOk, Cpu.set, hgb], (by (repeat (first | (with_reducible first | apply below_alloc | apply pw_below_drewN | apply below_drew1) | exact Below.refl _ _)))⟩

set_option maxRecDepth 100000 in
set_option maxHeartbeats 4000000 in
theorem start_18 (c : Cpu) (a b n size sz : Int) (k : Nat) (w : World) (hG : Glob w) (hs : ins_Size.f k 18 = some sz) (hz : sz ≠ 0) (hst : c.st = 0) (ha0 : 0 ≤ a) (ha : a < 8) (hb0 : 0 ≤ b) (hb : b < 8) :
    Calls Tryd.prog 9 #[c.v, ins 18 a b n, i64 size] w fun e w' => e = .returned (.tuple #[(startOk c 18 a b n size (0, 0)).1.v, (startOk c 18 a b n size (0, 0)).2.v]) ∧ Below w.heap.size w w' := by
  have HG := Aside0.mk hG
  have A := Aside0.mk hs
  clear hG hs
  have e2 : (sz == 0) = false := beq_eq_false_iff_ne.mpr hz
  have e3 : decide (mn a b < 0) = false := decide_eq_false (by unfold mn; split <;> omega)
  have e4 : decide (mx a b ≥ 8) = false := decide_eq_false (by unfold mx; split <;> omega)
  clear hz
  obtain ⟨r0, r1, r2, r3, r4, r5, r6, r7, pc, st, tr⟩ := c
  subst hst
  obtain ⟨a, rfl⟩ := Int.eq_ofNat_of_zero_le ha0
  have ha' : a < 8 := by omega
  have haI : (a : Int) < 8 := by omega
  have haJ : (0 : Int) ≤ (a : Int) := by omega
  have hA := at8 r0 r1 r2 r3 r4 r5 r6 r7 pc 0 tr a ha'
  generalize hga : (⟨r0, r1, r2, r3, r4, r5, r6, r7, pc, 0, tr⟩ : Cpu).get a = ga at hA
  obtain ⟨b, rfl⟩ := Int.eq_ofNat_of_zero_le hb0
  have hb' : b < 8 := by omega
  have hbI : (b : Int) < 8 := by omega
  have hbJ : (0 : Int) ≤ (b : Int) := by omega
  have hB := at8 r0 r1 r2 r3 r4 r5 r6 r7 pc 0 tr b hb'
  generalize hgb : (⟨r0, r1, r2, r3, r4, r5, r6, r7, pc, 0, tr⟩ : Cpu).get b = gb at hB
  clear ha0 ha hb0 hb
  go_enter Tryd.func9, Tryd.ntmps9
  go_wp2_with (first | (go_at_call 14; (with_reducible refine (size_go k _ _ w _ HG A (by (repeat (first | (with_reducible first | apply below_alloc | apply pw_below_drewN | apply below_drew1) | exact Below.refl _ _)))).mono ?_); rintro e w' ⟨rfl, ⟨nd, rfl⟩⟩))
  refine region_tail 11 (by kernel_rfl) (by kernel_rfl) ?_
  simp only [List.take_succ_cons, List.take_zero, List.drop_succ_cons, List.drop_zero]
  repeat still_step
  still_call (at_c _ a n ga _ ha' (by go_simp))
  repeat still_step
  refine wpStill_nil ?_
  go_wp2
  go_region
  go_wp2
  all_goals exact bodyPost_ret (v := .tuple #[.agg #[i64 (r0), i64 (r1), i64 (r2), i64 (r3), i64 (r4), i64 (r5), i64 (r6), i64 (r7), i64 (wrap64 (pc + size)), i64 (0), i64 (tr)], .agg #[i64 (2), i64 (wrap64 (ga + n)), i64 (gb), i64 (0)]]) (by simp [results, Tryd.results9, go_sem]) rfl ⟨by simp [startOk, Cpu.set, hga, hgb], (by (repeat (first | (with_reducible first | apply below_alloc | apply pw_below_drewN | apply below_drew1) | exact Below.refl _ _)))⟩

set_option maxRecDepth 100000 in
set_option maxHeartbeats 4000000 in
theorem start_28 (c : Cpu) (a b n size sz : Int) (k : Nat) (w : World) (hG : Glob w) (hs : ins_Size.f k 28 = some sz) (hz : sz ≠ 0) (hst : c.st = 0) (ha0 : 0 ≤ a) (ha : a < 8) (hb0 : 0 ≤ b) (hb : b < 8) :
    Calls Tryd.prog 9 #[c.v, ins 28 a b n, i64 size] w fun e w' => e = .returned (.tuple #[(startOk c 28 a b n size (0, 0)).1.v, (startOk c 28 a b n size (0, 0)).2.v]) ∧ Below w.heap.size w w' := by
  have HG := Aside0.mk hG
  have A := Aside0.mk hs
  clear hG hs
  have e2 : (sz == 0) = false := beq_eq_false_iff_ne.mpr hz
  have e3 : decide (mn a b < 0) = false := decide_eq_false (by unfold mn; split <;> omega)
  have e4 : decide (mx a b ≥ 8) = false := decide_eq_false (by unfold mx; split <;> omega)
  clear hz
  obtain ⟨r0, r1, r2, r3, r4, r5, r6, r7, pc, st, tr⟩ := c
  subst hst
  obtain ⟨a, rfl⟩ := Int.eq_ofNat_of_zero_le ha0
  have ha' : a < 8 := by omega
  have haI : (a : Int) < 8 := by omega
  have haJ : (0 : Int) ≤ (a : Int) := by omega
  have hA := at8 r0 r1 r2 r3 r4 r5 r6 r7 pc 0 tr a ha'
  generalize hga : (⟨r0, r1, r2, r3, r4, r5, r6, r7, pc, 0, tr⟩ : Cpu).get a = ga at hA
  obtain ⟨b, rfl⟩ := Int.eq_ofNat_of_zero_le hb0
  have hb' : b < 8 := by omega
  have hbI : (b : Int) < 8 := by omega
  have hbJ : (0 : Int) ≤ (b : Int) := by omega
  have hB := at8 r0 r1 r2 r3 r4 r5 r6 r7 pc 0 tr b hb'
  generalize hgb : (⟨r0, r1, r2, r3, r4, r5, r6, r7, pc, 0, tr⟩ : Cpu).get b = gb at hB
  clear ha0 ha hb0 hb
  go_enter Tryd.func9, Tryd.ntmps9
  go_wp2_with (first | (go_at_call 14; (with_reducible refine (size_go k _ _ w _ HG A (by (repeat (first | (with_reducible first | apply below_alloc | apply pw_below_drewN | apply below_drew1) | exact Below.refl _ _)))).mono ?_); rintro e w' ⟨rfl, ⟨nd, rfl⟩⟩))
  refine region_tail 13 (by kernel_rfl) (by kernel_rfl) ?_
  simp only [List.take_succ_cons, List.take_zero, List.drop_succ_cons, List.drop_zero]
  repeat still_step
  still_call (at_c _ a n ga _ ha' (by go_simp))
  repeat still_step
  refine wpStill_nil ?_
  go_wp2
  go_region
  go_wp2
  all_goals exact bodyPost_ret (v := .tuple #[.agg #[i64 (r0), i64 (r1), i64 (r2), i64 (r3), i64 (r4), i64 (r5), i64 (r6), i64 (r7), i64 (wrap64 (pc + size)), i64 (0), i64 (tr)], .agg #[i64 (3), i64 (wrap64 (ga + n)), i64 (gb), i64 (b)]]) (by simp [results, Tryd.results9, go_sem]) rfl ⟨by simp [startOk, Cpu.set, hga, hgb], (by (repeat (first | (with_reducible first | apply below_alloc | apply pw_below_drewN | apply below_drew1) | exact Below.refl _ _)))⟩

set_option maxRecDepth 100000 in
set_option maxHeartbeats 4000000 in
theorem start_29 (c : Cpu) (a b n size sz : Int) (k : Nat) (w : World) (hG : Glob w) (hs : ins_Size.f k 29 = some sz) (hz : sz ≠ 0) (hst : c.st = 0) (ha0 : 0 ≤ a) (ha : a < 8) (hb0 : 0 ≤ b) (hb : b < 8) :
    Calls Tryd.prog 9 #[c.v, ins 29 a b n, i64 size] w fun e w' => e = .returned (.tuple #[(startOk c 29 a b n size (0, 0)).1.v, (startOk c 29 a b n size (0, 0)).2.v]) ∧ Below w.heap.size w w' := by
  have HG := Aside0.mk hG
  have A := Aside0.mk hs
  clear hG hs
  have e2 : (sz == 0) = false := beq_eq_false_iff_ne.mpr hz
  have e3 : decide (mn a b < 0) = false := decide_eq_false (by unfold mn; split <;> omega)
  have e4 : decide (mx a b ≥ 8) = false := decide_eq_false (by unfold mx; split <;> omega)
  clear hz
  obtain ⟨r0, r1, r2, r3, r4, r5, r6, r7, pc, st, tr⟩ := c
  subst hst
  obtain ⟨a, rfl⟩ := Int.eq_ofNat_of_zero_le ha0
  have ha' : a < 8 := by omega
  have haI : (a : Int) < 8 := by omega
  have haJ : (0 : Int) ≤ (a : Int) := by omega
  have hA := at8 r0 r1 r2 r3 r4 r5 r6 r7 pc 0 tr a ha'
  generalize hga : (⟨r0, r1, r2, r3, r4, r5, r6, r7, pc, 0, tr⟩ : Cpu).get a = ga at hA
  obtain ⟨b, rfl⟩ := Int.eq_ofNat_of_zero_le hb0
  have hb' : b < 8 := by omega
  have hbI : (b : Int) < 8 := by omega
  have hbJ : (0 : Int) ≤ (b : Int) := by omega
  have hB := at8 r0 r1 r2 r3 r4 r5 r6 r7 pc 0 tr b hb'
  generalize hgb : (⟨r0, r1, r2, r3, r4, r5, r6, r7, pc, 0, tr⟩ : Cpu).get b = gb at hB
  clear ha0 ha hb0 hb
  go_enter Tryd.func9, Tryd.ntmps9
  go_wp2_with (first | (go_at_call 14; (with_reducible refine (size_go k _ _ w _ HG A (by (repeat (first | (with_reducible first | apply below_alloc | apply pw_below_drewN | apply below_drew1) | exact Below.refl _ _)))).mono ?_); rintro e w' ⟨rfl, ⟨nd, rfl⟩⟩))
  refine region_tail 13 (by kernel_rfl) (by kernel_rfl) ?_
  simp only [List.take_succ_cons, List.take_zero, List.drop_succ_cons, List.drop_zero]
  repeat still_step
  still_call (at_c _ a n ga _ ha' (by go_simp))
  repeat still_step
  refine wpStill_nil ?_
  go_wp2
  go_region
  go_wp2
  all_goals exact bodyPost_ret (v := .tuple #[.agg #[i64 (r0), i64 (r1), i64 (r2), i64 (r3), i64 (r4), i64 (r5), i64 (r6), i64 (r7), i64 (wrap64 (pc + size)), i64 (0), i64 (tr)], .agg #[i64 (4), i64 (wrap64 (ga + n)), i64 (gb), i64 (b)]]) (by simp [results, Tryd.results9, go_sem]) rfl ⟨by simp [startOk, Cpu.set, hga, hgb], (by (repeat (first | (with_reducible first | apply below_alloc | apply pw_below_drewN | apply below_drew1) | exact Below.refl _ _)))⟩

set_option maxRecDepth 100000 in
set_option maxHeartbeats 4000000 in
theorem start_31 (c : Cpu) (a b n size sz : Int) (k : Nat) (w : World) (hG : Glob w) (hs : ins_Size.f k 31 = some sz) (hz : sz ≠ 0) (hst : c.st = 0) (ha0 : 0 ≤ a) (ha : a < 8) (hb0 : 0 ≤ b) (hb : b < 8) :
    Calls Tryd.prog 9 #[c.v, ins 31 a b n, i64 size] w fun e w' => e = .returned (.tuple #[(startOk c 31 a b n size (0, 0)).1.v, (startOk c 31 a b n size (0, 0)).2.v]) ∧ Below w.heap.size w w' := by
  have HG := Aside0.mk hG
  have A := Aside0.mk hs
  clear hG hs
  have e2 : (sz == 0) = false := beq_eq_false_iff_ne.mpr hz
  have e3 : decide (mn a b < 0) = false := decide_eq_false (by unfold mn; split <;> omega)
  have e4 : decide (mx a b ≥ 8) = false := decide_eq_false (by unfold mx; split <;> omega)
  clear hz
  obtain ⟨r0, r1, r2, r3, r4, r5, r6, r7, pc, st, tr⟩ := c
  subst hst
  obtain ⟨a, rfl⟩ := Int.eq_ofNat_of_zero_le ha0
  have ha' : a < 8 := by omega
  have haI : (a : Int) < 8 := by omega
  have haJ : (0 : Int) ≤ (a : Int) := by omega
  have hA := at8 r0 r1 r2 r3 r4 r5 r6 r7 pc 0 tr a ha'
  generalize hga : (⟨r0, r1, r2, r3, r4, r5, r6, r7, pc, 0, tr⟩ : Cpu).get a = ga at hA
  obtain ⟨b, rfl⟩ := Int.eq_ofNat_of_zero_le hb0
  have hb' : b < 8 := by omega
  have hbI : (b : Int) < 8 := by omega
  have hbJ : (0 : Int) ≤ (b : Int) := by omega
  have hB := at8 r0 r1 r2 r3 r4 r5 r6 r7 pc 0 tr b hb'
  generalize hgb : (⟨r0, r1, r2, r3, r4, r5, r6, r7, pc, 0, tr⟩ : Cpu).get b = gb at hB
  clear ha0 ha hb0 hb
  go_enter Tryd.func9, Tryd.ntmps9
  go_wp2_with (first | (go_at_call 14; (with_reducible refine (size_go k _ _ w _ HG A (by (repeat (first | (with_reducible first | apply below_alloc | apply pw_below_drewN | apply below_drew1) | exact Below.refl _ _)))).mono ?_); rintro e w' ⟨rfl, ⟨nd, rfl⟩⟩))
  go_region
  go_wp2
  all_goals exact bodyPost_ret (v := .tuple #[.agg #[i64 (r0), i64 (r1), i64 (r2), i64 (r3), i64 (r4), i64 (r5), i64 (r6), i64 (r7), i64 (wrap64 (pc + size)), i64 (0), i64 (tr)], .agg #[i64 (6), i64 (0), i64 (ga), i64 (0)]]) (by simp [results, Tryd.results9, go_sem]) rfl ⟨by simp [startOk, Cpu.set, hga], (by (repeat (first | (with_reducible first | apply below_alloc | apply pw_below_drewN | apply below_drew1) | exact Below.refl _ _)))⟩

set_option maxRecDepth 100000 in
set_option maxHeartbeats 4000000 in
theorem start_30 (c : Cpu) (a b n size sz : Int) (k : Nat) (w : World) (hG : Glob w) (hs : ins_Size.f k 30 = some sz) (hz : sz ≠ 0) (hst : c.st = 0) (ha0 : 0 ≤ a) (ha : a < 8) (hb0 : 0 ≤ b) (hb : b < 8) :
    Calls Tryd.prog 9 #[c.v, ins 30 a b n, i64 size] w fun e w' => e = .returned (.tuple #[(startOk c 30 a b n size (0, 0)).1.v, (startOk c 30 a b n size (0, 0)).2.v]) ∧ Below w.heap.size w w' := by
  have HG := Aside0.mk hG
  have A := Aside0.mk hs
  clear hG hs
  have e2 : (sz == 0) = false := beq_eq_false_iff_ne.mpr hz
  have e3 : decide (mn a b < 0) = false := decide_eq_false (by unfold mn; split <;> omega)
  have e4 : decide (mx a b ≥ 8) = false := decide_eq_false (by unfold mx; split <;> omega)
  clear hz
  obtain ⟨r0, r1, r2, r3, r4, r5, r6, r7, pc, st, tr⟩ := c
  subst hst
  clear ha0 ha hb0 hb
  go_enter Tryd.func9, Tryd.ntmps9
  go_wp2_with (first | (go_at_call 14; (with_reducible refine (size_go k _ _ w _ HG A (by (repeat (first | (with_reducible first | apply below_alloc | apply pw_below_drewN | apply below_drew1) | exact Below.refl _ _)))).mono ?_); rintro e w' ⟨rfl, ⟨nd, rfl⟩⟩))
  go_region
  go_wp2
  all_goals exact bodyPost_ret (v := .tuple #[.agg #[i64 (r0), i64 (r1), i64 (r2), i64 (r3), i64 (r4), i64 (r5), i64 (r6), i64 (r7), i64 (wrap64 (pc + size)), i64 (0), i64 (tr)], .agg #[i64 (5), i64 (0), i64 (0), i64 (0)]]) (by simp [results, Tryd.results9, go_sem]) rfl ⟨by simp [startOk, Cpu.set], (by (repeat (first | (with_reducible first | apply below_alloc | apply pw_below_drewN | apply below_drew1) | exact Below.refl _ _)))⟩

set_option maxRecDepth 100000 in
set_option maxHeartbeats 4000000 in
theorem start_32 (c : Cpu) (a b n size sz : Int) (k : Nat) (w : World) (hG : Glob w) (hs : ins_Size.f k 32 = some sz) (hz : sz ≠ 0) (hst : c.st = 0) (ha0 : 0 ≤ a) (ha : a < 8) (hb0 : 0 ≤ b) (hb : b < 8) :
    Calls Tryd.prog 9 #[c.v, ins 32 a b n, i64 size] w fun e w' => e = .returned (.tuple #[(startOk c 32 a b n size (0, 0)).1.v, (startOk c 32 a b n size (0, 0)).2.v]) ∧ Below w.heap.size w w' := by
  have HG := Aside0.mk hG
  have A := Aside0.mk hs
  clear hG hs
  have e2 : (sz == 0) = false := beq_eq_false_iff_ne.mpr hz
  have e3 : decide (mn a b < 0) = false := decide_eq_false (by unfold mn; split <;> omega)
  have e4 : decide (mx a b ≥ 8) = false := decide_eq_false (by unfold mx; split <;> omega)
  clear hz
  obtain ⟨r0, r1, r2, r3, r4, r5, r6, r7, pc, st, tr⟩ := c
  subst hst
  clear ha0 ha hb0 hb
  go_enter Tryd.func9, Tryd.ntmps9
  go_wp2_with (first | (go_at_call 14; (with_reducible refine (size_go k _ _ w _ HG A (by (repeat (first | (with_reducible first | apply below_alloc | apply pw_below_drewN | apply below_drew1) | exact Below.refl _ _)))).mono ?_); rintro e w' ⟨rfl, ⟨nd, rfl⟩⟩))
  go_region
  go_wp2
  all_goals exact bodyPost_ret (v := .tuple #[.agg #[i64 (r0), i64 (r1), i64 (r2), i64 (r3), i64 (r4), i64 (r5), i64 (r6), i64 (r7), i64 (wrap64 (pc + size)), i64 (1), i64 (tr)], .agg #[i64 (5), i64 (0), i64 (0), i64 (0)]]) (by simp [results, Tryd.results9, go_sem]) rfl ⟨by simp [startOk, Cpu.set], (by (repeat (first | (with_reducible first | apply below_alloc | apply pw_below_drewN | apply below_drew1) | exact Below.refl _ _)))⟩

set_option maxRecDepth 100000 in
set_option maxHeartbeats 4000000 in
theorem start_23 (c : Cpu) (a b n size sz : Int) (k : Nat) (w : World) (hG : Glob w) (hs : ins_Size.f k 23 = some sz) (hz : sz ≠ 0) (hst : c.st = 0) (ha0 : 0 ≤ a) (ha : a < 8) (hb0 : 0 ≤ b) (hb : b < 8) :
    Calls Tryd.prog 9 #[c.v, ins 23 a b n, i64 size] w fun e w' => e = .returned (.tuple #[(startOk c 23 a b n size (0, 0)).1.v, (startOk c 23 a b n size (0, 0)).2.v]) ∧ Below w.heap.size w w' := by
  have HG := Aside0.mk hG
  have A := Aside0.mk hs
  clear hG hs
  have e2 : (sz == 0) = false := beq_eq_false_iff_ne.mpr hz
  have e3 : decide (mn a b < 0) = false := decide_eq_false (by unfold mn; split <;> omega)
  have e4 : decide (mx a b ≥ 8) = false := decide_eq_false (by unfold mx; split <;> omega)
  clear hz
  obtain ⟨r0, r1, r2, r3, r4, r5, r6, r7, pc, st, tr⟩ := c
  subst hst
  clear ha0 ha hb0 hb
  go_enter Tryd.func9, Tryd.ntmps9
  go_wp2_with (first | (go_at_call 14; (with_reducible refine (size_go k _ _ w _ HG A (by (repeat (first | (with_reducible first | apply below_alloc | apply pw_below_drewN | apply below_drew1) | exact Below.refl _ _)))).mono ?_); rintro e w' ⟨rfl, ⟨nd, rfl⟩⟩))
  go_region
  go_wp2
  all_goals exact bodyPost_ret (v := .tuple #[.agg #[i64 (r0), i64 (r1), i64 (r2), i64 (r3), i64 (r4), i64 (r5), i64 (r6), i64 (wrap64 (r7 - 8)), i64 (wrap64 (wrap64 (pc + size) + n)), i64 (0), i64 (tr)], .agg #[i64 (2), i64 (wrap64 (r7 - 8)), i64 (wrap64 (pc + size)), i64 (0)]]) (by simp [results, Tryd.results9, go_sem]) rfl ⟨by simp [startOk, Cpu.set], (by (repeat (first | (with_reducible first | apply below_alloc | apply pw_below_drewN | apply below_drew1) | exact Below.refl _ _)))⟩

set_option maxRecDepth 100000 in
set_option maxHeartbeats 4000000 in
theorem start_24 (c : Cpu) (a b n size sz : Int) (k : Nat) (w : World) (hG : Glob w) (hs : ins_Size.f k 24 = some sz) (hz : sz ≠ 0) (hst : c.st = 0) (ha0 : 0 ≤ a) (ha : a < 8) (hb0 : 0 ≤ b) (hb : b < 8) :
    Calls Tryd.prog 9 #[c.v, ins 24 a b n, i64 size] w fun e w' => e = .returned (.tuple #[(startOk c 24 a b n size (0, 0)).1.v, (startOk c 24 a b n size (0, 0)).2.v]) ∧ Below w.heap.size w w' := by
  have HG := Aside0.mk hG
  have A := Aside0.mk hs
  clear hG hs
  have e2 : (sz == 0) = false := beq_eq_false_iff_ne.mpr hz
  have e3 : decide (mn a b < 0) = false := decide_eq_false (by unfold mn; split <;> omega)
  have e4 : decide (mx a b ≥ 8) = false := decide_eq_false (by unfold mx; split <;> omega)
  clear hz
  obtain ⟨r0, r1, r2, r3, r4, r5, r6, r7, pc, st, tr⟩ := c
  subst hst
  clear ha0 ha hb0 hb
  go_enter Tryd.func9, Tryd.ntmps9
  go_wp2_with (first | (go_at_call 14; (with_reducible refine (size_go k _ _ w _ HG A (by (repeat (first | (with_reducible first | apply below_alloc | apply pw_below_drewN | apply below_drew1) | exact Below.refl _ _)))).mono ?_); rintro e w' ⟨rfl, ⟨nd, rfl⟩⟩) | (go_at_call 15; (with_reducible refine (at_7 _ r7 _ (by go_simp)).mono ?_); rintro e w' ⟨rfl, rfl⟩))
  go_region
  go_wp2
  all_goals exact bodyPost_ret (v := .tuple #[.agg #[i64 (r0), i64 (r1), i64 (r2), i64 (r3), i64 (r4), i64 (r5), i64 (r6), i64 (wrap64 (r7 + 8)), i64 (wrap64 (pc + size)), i64 (0), i64 (tr)], .agg #[i64 (1), i64 (wrap64 (r7 + 0)), i64 (0), i64 (8)]]) (by simp [results, Tryd.results9, go_sem]) rfl ⟨by simp [startOk, Cpu.set], (by (repeat (first | (with_reducible first | apply below_alloc | apply pw_below_drewN | apply below_drew1) | exact Below.refl _ _)))⟩

set_option maxRecDepth 100000 in
set_option maxHeartbeats 4000000 in
theorem start_33 (c : Cpu) (a b n size sz : Int) (k : Nat) (w : World) (hG : Glob w) (hs : ins_Size.f k 33 = some sz) (hz : sz ≠ 0) (hst : c.st = 0) (ha0 : 0 ≤ a) (ha : a < 8) (hb0 : 0 ≤ b) (hb : b < 8) :
    Calls Tryd.prog 9 #[c.v, ins 33 a b n, i64 size] w fun e w' => e = .returned (.tuple #[(startOk c 33 a b n size (0, 0)).1.v, (startOk c 33 a b n size (0, 0)).2.v]) ∧ Below w.heap.size w w' := by
  have HG := Aside0.mk hG
  have A := Aside0.mk hs
  clear hG hs
  have e2 : (sz == 0) = false := beq_eq_false_iff_ne.mpr hz
  have e3 : decide (mn a b < 0) = false := decide_eq_false (by unfold mn; split <;> omega)
  have e4 : decide (mx a b ≥ 8) = false := decide_eq_false (by unfold mx; split <;> omega)
  clear hz
  obtain ⟨r0, r1, r2, r3, r4, r5, r6, r7, pc, st, tr⟩ := c
  subst hst
  clear ha0 ha hb0 hb
  go_enter Tryd.func9, Tryd.ntmps9
  go_wp2_with (first | (go_at_call 14; (with_reducible refine (size_go k _ _ w _ HG A (by (repeat (first | (with_reducible first | apply below_alloc | apply pw_below_drewN | apply below_drew1) | exact Below.refl _ _)))).mono ?_); rintro e w' ⟨rfl, ⟨nd, rfl⟩⟩) | (go_at_call 17; (with_reducible refine (trap_c _ _ _ _ _ _ _ _ _ _ _ _ _).mono ?_); rintro e w' ⟨rfl, rfl⟩))
  all_goals exact bodyPost_ret (v := .tuple #[.agg #[i64 (r0), i64 (r1), i64 (r2), i64 (r3), i64 (r4), i64 (r5), i64 (r6), i64 (r7), i64 (pc), i64 (2), i64 (n)], .agg #[i64 (0), i64 (0), i64 (0), i64 (0)]]) (by simp [results, Tryd.results9, go_sem]) rfl ⟨by simp [startOk, Cpu.set], (by (repeat (first | (with_reducible first | apply below_alloc | apply pw_below_drewN | apply below_drew1) | exact Below.refl _ _)))⟩
end Go.Proofs.YtjlfjkpbooholaaDoor.M
