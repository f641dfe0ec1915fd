/-
  Layer 4: package step's Start at the jumps. Conditions: the fields may be.
-/
import Derived.Test.YtjlfjkpbooholaaDoorK
import Derived.Deep.RegionWith
import Derived.Deep.QuietTactic
import Derived.BigQuiet
import Derived.StillTailTactics
namespace Go.Proofs.YtjlfjkpbooholaaDoor.M
open Go.RowKit Go.Proofs.YtjlfjkpbooholaaDoorW.PrintWords Go.Proofs.YtjlfjkpbooholaaDoorW.PrintLast
set_option linter.unusedSimpArgs false
set_option linter.unusedVariables false
attribute [local go_sem] min_ints max_ints setCell_drewN alloc_drewN
set_option maxRecDepth 100000 in
set_option maxHeartbeats 4000000 in
theorem start_20 (c : Cpu) (a b n size sz : Int) (k : Nat) (w : World) (hG : Glob w) (hs : ins_Size.f k 20 = some sz) (hz : sz ≠ 0) (hst : c.st = 0) (ha0 : 0 ≤ a) (ha : a < 8) (hb0 : 0 ≤ b) (hb : b < 8) :
    Calls Tryd.prog 9 #[c.v, ins 20 a b n, i64 size] w fun e w' => e = .returned (.tuple #[(startOk c 20 a b n size (0, 0)).1.v, (startOk c 20 a b n size (0, 0)).2.v]) ∧ Below w.heap.size w w' := by
  have HG := Aside0.mk hG
  have A := Aside0.mk hs
  clear hG hs
  have e2 : (sz == 0) = false := beq_eq_false_iff_ne.mpr hz
  have e3 : decide (mn a b < 0) = false := decide_eq_false (by unfold mn; split <;> omega)
  have e4 : decide (mx a b ≥ 8) = false := decide_eq_false (by unfold mx; split <;> omega)
  clear hz
  obtain ⟨r0, r1, r2, r3, r4, r5, r6, r7, pc, st, tr⟩ := c
  subst hst
  obtain ⟨a, rfl⟩ := Int.eq_ofNat_of_zero_le ha0
  have ha' : a < 8 := by omega
  have haI : (a : Int) < 8 := by omega
  have haJ : (0 : Int) ≤ (a : Int) := by omega
  have hA := at8 r0 r1 r2 r3 r4 r5 r6 r7 pc 0 tr a ha'
  generalize hga : (⟨r0, r1, r2, r3, r4, r5, r6, r7, pc, 0, tr⟩ : Cpu).get a = ga at hA
  have TK := Aside0.mk (show step_taken.f 60 20 ga = some true by simp [step_taken.f, step_taken.j0])
  clear ha0 ha hb0 hb
  go_enter Tryd.func9, Tryd.ntmps9
  go_wp2_with (first | (go_at_call 14; (with_reducible refine (size_go k _ _ w _ HG A (by (repeat (first | (with_reducible first | apply below_alloc | apply pw_below_drewN | apply below_drew1) | exact Below.refl _ _)))).mono ?_); rintro e w' ⟨rfl, ⟨nd, rfl⟩⟩))
  go_quiet ((go_at_call 16; exact quiet_at (step_taken.calls 60 _ _ true _ TK.out)))
  go_wp2
  go_region
  go_wp2
  all_goals exact bodyPost_ret (v := .tuple #[.agg #[i64 (r0), i64 (r1), i64 (r2), i64 (r3), i64 (r4), i64 (r5), i64 (r6), i64 (r7), i64 (wrap64 (wrap64 (pc + size) + n)), i64 (0), i64 (tr)], .agg #[i64 (0), i64 (0), i64 (0), i64 (0)]]) (by simp [results, Tryd.results9, go_sem]) rfl ⟨by simp [startOk, Cpu.set, hga], (by (repeat (first | (with_reducible first | apply below_alloc | apply pw_below_drewN | apply below_drew1) | exact Below.refl _ _)))⟩

set_option maxRecDepth 100000 in
set_option maxHeartbeats 4000000 in
theorem start_25 (c : Cpu) (a b n size sz : Int) (k : Nat) (w : World) (hG : Glob w) (hs : ins_Size.f k 25 = some sz) (hz : sz ≠ 0) (hst : c.st = 0) (ha0 : 0 ≤ a) (ha : a < 8) (hb0 : 0 ≤ b) (hb : b < 8) :
    Calls Tryd.prog 9 #[c.v, ins 25 a b n, i64 size] w fun e w' => e = .returned (.tuple #[(startOk c 25 a b n size (0, 0)).1.v, (startOk c 25 a b n size (0, 0)).2.v]) ∧ Below w.heap.size w w' := by
  have HG := Aside0.mk hG
  have A := Aside0.mk hs
  clear hG hs
  have e2 : (sz == 0) = false := beq_eq_false_iff_ne.mpr hz
  have e3 : decide (mn a b < 0) = false := decide_eq_false (by unfold mn; split <;> omega)
  have e4 : decide (mx a b ≥ 8) = false := decide_eq_false (by unfold mx; split <;> omega)
  clear hz
  obtain ⟨r0, r1, r2, r3, r4, r5, r6, r7, pc, st, tr⟩ := c
  subst hst
  obtain ⟨a, rfl⟩ := Int.eq_ofNat_of_zero_le ha0
  have ha' : a < 8 := by omega
  have haI : (a : Int) < 8 := by omega
  have haJ : (0 : Int) ≤ (a : Int) := by omega
  have hA := at8 r0 r1 r2 r3 r4 r5 r6 r7 pc 0 tr a ha'
  generalize hga : (⟨r0, r1, r2, r3, r4, r5, r6, r7, pc, 0, tr⟩ : Cpu).get a = ga at hA
  have TK := Aside0.mk (show step_taken.f 60 25 ga = some true by simp [step_taken.f, step_taken.j0])
  clear ha0 ha hb0 hb
  go_enter Tryd.func9, Tryd.ntmps9
  go_wp2_with (first | (go_at_call 14; (with_reducible refine (size_go k _ _ w _ HG A (by (repeat (first | (with_reducible first | apply below_alloc | apply pw_below_drewN | apply below_drew1) | exact Below.refl _ _)))).mono ?_); rintro e w' ⟨rfl, ⟨nd, rfl⟩⟩))
  go_quiet ((go_at_call 16; exact quiet_at (step_taken.calls 60 _ _ true _ TK.out)))
  go_wp2
  go_region
  go_wp2
  all_goals exact bodyPost_ret (v := .tuple #[.agg #[i64 (r0), i64 (r1), i64 (r2), i64 (r3), i64 (r4), i64 (r5), i64 (r6), i64 (r7), i64 (wrap64 (wrap64 (pc + size) + n)), i64 (0), i64 (tr)], .agg #[i64 (0), i64 (0), i64 (0), i64 (0)]]) (by simp [results, Tryd.results9, go_sem]) rfl ⟨by simp [startOk, Cpu.set, hga], (by (repeat (first | (with_reducible first | apply below_alloc | apply pw_below_drewN | apply below_drew1) | exact Below.refl _ _)))⟩

set_option maxRecDepth 100000 in
set_option maxHeartbeats 4000000 in
theorem start_21z (c : Cpu) (a b n size sz : Int) (k : Nat) (w : World) (hG : Glob w) (hs : ins_Size.f k 21 = some sz) (hz : sz ≠ 0) (hst : c.st = 0) (ha0 : 0 ≤ a) (ha : a < 8) (hb0 : 0 ≤ b) (hb : b < 8) (hgz : c.get a = 0) :
    Calls Tryd.prog 9 #[c.v, ins 21 a b n, i64 size] w fun e w' => e = .returned (.tuple #[(startOk c 21 a b n size (0, 0)).1.v, (startOk c 21 a b n size (0, 0)).2.v]) ∧ Below w.heap.size w w' := by
  have HG := Aside0.mk hG
  have A := Aside0.mk hs
  clear hG hs
  have e2 : (sz == 0) = false := beq_eq_false_iff_ne.mpr hz
  have e3 : decide (mn a b < 0) = false := decide_eq_false (by unfold mn; split <;> omega)
  have e4 : decide (mx a b ≥ 8) = false := decide_eq_false (by unfold mx; split <;> omega)
  clear hz
  obtain ⟨r0, r1, r2, r3, r4, r5, r6, r7, pc, st, tr⟩ := c
  subst hst
  obtain ⟨a, rfl⟩ := Int.eq_ofNat_of_zero_le ha0
  have ha' : a < 8 := by omega
  have haI : (a : Int) < 8 := by omega
  have haJ : (0 : Int) ≤ (a : Int) := by omega
  have hA := at8 r0 r1 r2 r3 r4 r5 r6 r7 pc 0 tr a ha'
  generalize hga : (⟨r0, r1, r2, r3, r4, r5, r6, r7, pc, 0, tr⟩ : Cpu).get a = ga at hA
  rw [hga] at hgz
  have TK := Aside0.mk (show step_taken.f 60 21 ga = some true by simp [step_taken.f, step_taken.j0, hgz])
  have HZ := Aside0.mk hgz
  clear hgz
  clear ha0 ha hb0 hb
  go_enter Tryd.func9, Tryd.ntmps9
  go_wp2_with (first | (go_at_call 14; (with_reducible refine (size_go k _ _ w _ HG A (by (repeat (first | (with_reducible first | apply below_alloc | apply pw_below_drewN | apply below_drew1) | exact Below.refl _ _)))).mono ?_); rintro e w' ⟨rfl, ⟨nd, rfl⟩⟩))
  go_quiet ((go_at_call 16; exact quiet_at (step_taken.calls 60 _ _ true _ TK.out)))
  go_wp2
  go_region
  go_wp2
  all_goals exact bodyPost_ret (v := .tuple #[.agg #[i64 (r0), i64 (r1), i64 (r2), i64 (r3), i64 (r4), i64 (r5), i64 (r6), i64 (r7), i64 (wrap64 (wrap64 (pc + size) + n)), i64 (0), i64 (tr)], .agg #[i64 (0), i64 (0), i64 (0), i64 (0)]]) (by simp [results, Tryd.results9, go_sem]) rfl ⟨by simp [startOk, Cpu.set, hga, HZ.out], (by (repeat (first | (with_reducible first | apply below_alloc | apply pw_below_drewN | apply below_drew1) | exact Below.refl _ _)))⟩

set_option maxRecDepth 100000 in
set_option maxHeartbeats 4000000 in
theorem start_21n (c : Cpu) (a b n size sz : Int) (k : Nat) (w : World) (hG : Glob w) (hs : ins_Size.f k 21 = some sz) (hz : sz ≠ 0) (hst : c.st = 0) (ha0 : 0 ≤ a) (ha : a < 8) (hb0 : 0 ≤ b) (hb : b < 8) (hgz : c.get a ≠ 0) :
    Calls Tryd.prog 9 #[c.v, ins 21 a b n, i64 size] w fun e w' => e = .returned (.tuple #[(startOk c 21 a b n size (0, 0)).1.v, (startOk c 21 a b n size (0, 0)).2.v]) ∧ Below w.heap.size w w' := by
  have HG := Aside0.mk hG
  have A := Aside0.mk hs
  clear hG hs
  have e2 : (sz == 0) = false := beq_eq_false_iff_ne.mpr hz
  have e3 : decide (mn a b < 0) = false := decide_eq_false (by unfold mn; split <;> omega)
  have e4 : decide (mx a b ≥ 8) = false := decide_eq_false (by unfold mx; split <;> omega)
  clear hz
  obtain ⟨r0, r1, r2, r3, r4, r5, r6, r7, pc, st, tr⟩ := c
  subst hst
  obtain ⟨a, rfl⟩ := Int.eq_ofNat_of_zero_le ha0
  have ha' : a < 8 := by omega
  have haI : (a : Int) < 8 := by omega
  have haJ : (0 : Int) ≤ (a : Int) := by omega
  have hA := at8 r0 r1 r2 r3 r4 r5 r6 r7 pc 0 tr a ha'
  generalize hga : (⟨r0, r1, r2, r3, r4, r5, r6, r7, pc, 0, tr⟩ : Cpu).get a = ga at hA
  rw [hga] at hgz
  have TK := Aside0.mk (show step_taken.f 60 21 ga = some false by simp [step_taken.f, step_taken.j0, hgz])
  have HZ := Aside0.mk hgz
  clear hgz
  clear ha0 ha hb0 hb
  go_enter Tryd.func9, Tryd.ntmps9
  go_wp2_with (first | (go_at_call 14; (with_reducible refine (size_go k _ _ w _ HG A (by (repeat (first | (with_reducible first | apply below_alloc | apply pw_below_drewN | apply below_drew1) | exact Below.refl _ _)))).mono ?_); rintro e w' ⟨rfl, ⟨nd, rfl⟩⟩))
  go_quiet ((go_at_call 16; exact quiet_at (step_taken.calls 60 _ _ false _ TK.out)))
  go_wp2
  go_region
  go_wp2
  all_goals exact bodyPost_ret (v := .tuple #[.agg #[i64 (r0), i64 (r1), i64 (r2), i64 (r3), i64 (r4), i64 (r5), i64 (r6), i64 (r7), i64 (wrap64 (pc + size)), i64 (0), i64 (tr)], .agg #[i64 (0), i64 (0), i64 (0), i64 (0)]]) (by simp [results, Tryd.results9, go_sem]) rfl ⟨by simp [startOk, Cpu.set, hga, HZ.out], (by (repeat (first | (with_reducible first | apply below_alloc | apply pw_below_drewN | apply below_drew1) | exact Below.refl _ _)))⟩

set_option maxRecDepth 100000 in
set_option maxHeartbeats 4000000 in
theorem start_26z (c : Cpu) (a b n size sz : Int) (k : Nat) (w : World) (hG : Glob w) (hs : ins_Size.f k 26 = some sz) (hz : sz ≠ 0) (hst : c.st = 0) (ha0 : 0 ≤ a) (ha : a < 8) (hb0 : 0 ≤ b) (hb : b < 8) (hgz : c.get a = 0) :
    Calls Tryd.prog 9 #[c.v, ins 26 a b n, i64 size] w fun e w' => e = .returned (.tuple #[(startOk c 26 a b n size (0, 0)).1.v, (startOk c 26 a b n size (0, 0)).2.v]) ∧ Below w.heap.size w w' := by
  have HG := Aside0.mk hG
  have A := Aside0.mk hs
  clear hG hs
  have e2 : (sz == 0) = false := beq_eq_false_iff_ne.mpr hz
  have e3 : decide (mn a b < 0) = false := decide_eq_false (by unfold mn; split <;> omega)
  have e4 : decide (mx a b ≥ 8) = false := decide_eq_false (by unfold mx; split <;> omega)
  clear hz
  obtain ⟨r0, r1, r2, r3, r4, r5, r6, r7, pc, st, tr⟩ := c
  subst hst
  obtain ⟨a, rfl⟩ := Int.eq_ofNat_of_zero_le ha0
  have ha' : a < 8 := by omega
  have haI : (a : Int) < 8 := by omega
  have haJ : (0 : Int) ≤ (a : Int) := by omega
  have hA := at8 r0 r1 r2 r3 r4 r5 r6 r7 pc 0 tr a ha'
  generalize hga : (⟨r0, r1, r2, r3, r4, r5, r6, r7, pc, 0, tr⟩ : Cpu).get a = ga at hA
  rw [hga] at hgz
  have TK := Aside0.mk (show step_taken.f 60 26 ga = some true by simp [step_taken.f, step_taken.j0, hgz])
  have HZ := Aside0.mk hgz
  clear hgz
  clear ha0 ha hb0 hb
  go_enter Tryd.func9, Tryd.ntmps9
  go_wp2_with (first | (go_at_call 14; (with_reducible refine (size_go k _ _ w _ HG A (by (repeat (first | (with_reducible first | apply below_alloc | apply pw_below_drewN | apply below_drew1) | exact Below.refl _ _)))).mono ?_); rintro e w' ⟨rfl, ⟨nd, rfl⟩⟩))
  go_quiet ((go_at_call 16; exact quiet_at (step_taken.calls 60 _ _ true _ TK.out)))
  go_wp2
  go_region
  go_wp2
  all_goals exact bodyPost_ret (v := .tuple #[.agg #[i64 (r0), i64 (r1), i64 (r2), i64 (r3), i64 (r4), i64 (r5), i64 (r6), i64 (r7), i64 (wrap64 (wrap64 (pc + size) + n)), i64 (0), i64 (tr)], .agg #[i64 (0), i64 (0), i64 (0), i64 (0)]]) (by simp [results, Tryd.results9, go_sem]) rfl ⟨by simp [startOk, Cpu.set, hga, HZ.out], (by (repeat (first | (with_reducible first | apply below_alloc | apply pw_below_drewN | apply below_drew1) | exact Below.refl _ _)))⟩

set_option maxRecDepth 100000 in
set_option maxHeartbeats 4000000 in
theorem start_26n (c : Cpu) (a b n size sz : Int) (k : Nat) (w : World) (hG : Glob w) (hs : ins_Size.f k 26 = some sz) (hz : sz ≠ 0) (hst : c.st = 0) (ha0 : 0 ≤ a) (ha : a < 8) (hb0 : 0 ≤ b) (hb : b < 8) (hgz : c.get a ≠ 0) :
    Calls Tryd.prog 9 #[c.v, ins 26 a b n, i64 size] w fun e w' => e = .returned (.tuple #[(startOk c 26 a b n size (0, 0)).1.v, (startOk c 26 a b n size (0, 0)).2.v]) ∧ Below w.heap.size w w' := by
  have HG := Aside0.mk hG
  have A := Aside0.mk hs
  clear hG hs
  have e2 : (sz == 0) = false := beq_eq_false_iff_ne.mpr hz
  have e3 : decide (mn a b < 0) = false := decide_eq_false (by unfold mn; split <;> omega)
  have e4 : decide (mx a b ≥ 8) = false := decide_eq_false (by unfold mx; split <;> omega)
  clear hz
  obtain ⟨r0, r1, r2, r3, r4, r5, r6, r7, pc, st, tr⟩ := c
  subst hst
  obtain ⟨a, rfl⟩ := Int.eq_ofNat_of_zero_le ha0
  have ha' : a < 8 := by omega
  have haI : (a : Int) < 8 := by omega
  have haJ : (0 : Int) ≤ (a : Int) := by omega
  have hA := at8 r0 r1 r2 r3 r4 r5 r6 r7 pc 0 tr a ha'
  generalize hga : (⟨r0, r1, r2, r3, r4, r5, r6, r7, pc, 0, tr⟩ : Cpu).get a = ga at hA
  rw [hga] at hgz
  have TK := Aside0.mk (show step_taken.f 60 26 ga = some false by simp [step_taken.f, step_taken.j0, hgz])
  have HZ := Aside0.mk hgz
  clear hgz
  clear ha0 ha hb0 hb
  go_enter Tryd.func9, Tryd.ntmps9
  go_wp2_with (first | (go_at_call 14; (with_reducible refine (size_go k _ _ w _ HG A (by (repeat (first | (with_reducible first | apply below_alloc | apply pw_below_drewN | apply below_drew1) | exact Below.refl _ _)))).mono ?_); rintro e w' ⟨rfl, ⟨nd, rfl⟩⟩))
  go_quiet ((go_at_call 16; exact quiet_at (step_taken.calls 60 _ _ false _ TK.out)))
  go_wp2
  go_region
  go_wp2
  all_goals exact bodyPost_ret (v := .tuple #[.agg #[i64 (r0), i64 (r1), i64 (r2), i64 (r3), i64 (r4), i64 (r5), i64 (r6), i64 (r7), i64 (wrap64 (pc + size)), i64 (0), i64 (tr)], .agg #[i64 (0), i64 (0), i64 (0), i64 (0)]]) (by simp [results, Tryd.results9, go_sem]) rfl ⟨by simp [startOk, Cpu.set, hga, HZ.out], (by (repeat (first | (with_reducible first | apply below_alloc | apply pw_below_drewN | apply below_drew1) | exact Below.refl _ _)))⟩

set_option maxRecDepth 100000 in
set_option maxHeartbeats 4000000 in
theorem start_22z (c : Cpu) (a b n size sz : Int) (k : Nat) (w : World) (hG : Glob w) (hs : ins_Size.f k 22 = some sz) (hz : sz ≠ 0) (hst : c.st = 0) (ha0 : 0 ≤ a) (ha : a < 8) (hb0 : 0 ≤ b) (hb : b < 8) (hgz : c.get a = 0) :
    Calls Tryd.prog 9 #[c.v, ins 22 a b n, i64 size] w fun e w' => e = .returned (.tuple #[(startOk c 22 a b n size (0, 0)).1.v, (startOk c 22 a b n size (0, 0)).2.v]) ∧ Below w.heap.size w w' := by
  have HG := Aside0.mk hG
  have A := Aside0.mk hs
  clear hG hs
  have e2 : (sz == 0) = false := beq_eq_false_iff_ne.mpr hz
  have e3 : decide (mn a b < 0) = false := decide_eq_false (by unfold mn; split <;> omega)
  have e4 : decide (mx a b ≥ 8) = false := decide_eq_false (by unfold mx; split <;> omega)
  clear hz
  obtain ⟨r0, r1, r2, r3, r4, r5, r6, r7, pc, st, tr⟩ := c
  subst hst
  obtain ⟨a, rfl⟩ := Int.eq_ofNat_of_zero_le ha0
  have ha' : a < 8 := by omega
  have haI : (a : Int) < 8 := by omega
  have haJ : (0 : Int) ≤ (a : Int) := by omega
  have hA := at8 r0 r1 r2 r3 r4 r5 r6 r7 pc 0 tr a ha'
  generalize hga : (⟨r0, r1, r2, r3, r4, r5, r6, r7, pc, 0, tr⟩ : Cpu).get a = ga at hA
  rw [hga] at hgz
  have TK := Aside0.mk (show step_taken.f 60 22 ga = some false by simp [step_taken.f, step_taken.j0, hgz])
  have HZ := Aside0.mk hgz
  clear hgz
  clear ha0 ha hb0 hb
  go_enter Tryd.func9, Tryd.ntmps9
  go_wp2_with (first | (go_at_call 14; (with_reducible refine (size_go k _ _ w _ HG A (by (repeat (first | (with_reducible first | apply below_alloc | apply pw_below_drewN | apply below_drew1) | exact Below.refl _ _)))).mono ?_); rintro e w' ⟨rfl, ⟨nd, rfl⟩⟩))
  go_quiet ((go_at_call 16; exact quiet_at (step_taken.calls 60 _ _ false _ TK.out)))
  go_wp2
  go_region
  go_wp2
  all_goals exact bodyPost_ret (v := .tuple #[.agg #[i64 (r0), i64 (r1), i64 (r2), i64 (r3), i64 (r4), i64 (r5), i64 (r6), i64 (r7), i64 (wrap64 (pc + size)), i64 (0), i64 (tr)], .agg #[i64 (0), i64 (0), i64 (0), i64 (0)]]) (by simp [results, Tryd.results9, go_sem]) rfl ⟨by simp [startOk, Cpu.set, hga, HZ.out], (by (repeat (first | (with_reducible first | apply below_alloc | apply pw_below_drewN | apply below_drew1) | exact Below.refl _ _)))⟩

set_option maxRecDepth 100000 in
set_option maxHeartbeats 4000000 in
theorem start_22n (c : Cpu) (a b n size sz : Int) (k : Nat) (w : World) (hG : Glob w) (hs : ins_Size.f k 22 = some sz) (hz : sz ≠ 0) (hst : c.st = 0) (ha0 : 0 ≤ a) (ha : a < 8) (hb0 : 0 ≤ b) (hb : b < 8) (hgz : c.get a ≠ 0) :
    Calls Tryd.prog 9 #[c.v, ins 22 a b n, i64 size] w fun e w' => e = .returned (.tuple #[(startOk c 22 a b n size (0, 0)).1.v, (startOk c 22 a b n size (0, 0)).2.v]) ∧ Below w.heap.size w w' := by
  have HG := Aside0.mk hG
  have A := Aside0.mk hs
  clear hG hs
  have e2 : (sz == 0) = false := beq_eq_false_iff_ne.mpr hz
  have e3 : decide (mn a b < 0) = false := decide_eq_false (by unfold mn; split <;> omega)
  have e4 : decide (mx a b ≥ 8) = false := decide_eq_false (by unfold mx; split <;> omega)
  clear hz
  obtain ⟨r0, r1, r2, r3, r4, r5, r6, r7, pc, st, tr⟩ := c
  subst hst
  obtain ⟨a, rfl⟩ := Int.eq_ofNat_of_zero_le ha0
  have ha' : a < 8 := by omega
  have haI : (a : Int) < 8 := by omega
  have haJ : (0 : Int) ≤ (a : Int) := by omega
  have hA := at8 r0 r1 r2 r3 r4 r5 r6 r7 pc 0 tr a ha'
  generalize hga : (⟨r0, r1, r2, r3, r4, r5, r6, r7, pc, 0, tr⟩ : Cpu).get a = ga at hA
  rw [hga] at hgz
  have TK := Aside0.mk (show step_taken.f 60 22 ga = some true by simp [step_taken.f, step_taken.j0, hgz])
  have HZ := Aside0.mk hgz
  clear hgz
  clear ha0 ha hb0 hb
  go_enter Tryd.func9, Tryd.ntmps9
  go_wp2_with (first | (go_at_call 14; (with_reducible refine (size_go k _ _ w _ HG A (by (repeat (first | (with_reducible first | apply below_alloc | apply pw_below_drewN | apply below_drew1) | exact Below.refl _ _)))).mono ?_); rintro e w' ⟨rfl, ⟨nd, rfl⟩⟩))
  go_quiet ((go_at_call 16; exact quiet_at (step_taken.calls 60 _ _ true _ TK.out)))
  go_wp2
  go_region
  go_wp2
  all_goals exact bodyPost_ret (v := .tuple #[.agg #[i64 (r0), i64 (r1), i64 (r2), i64 (r3), i64 (r4), i64 (r5), i64 (r6), i64 (r7), i64 (wrap64 (wrap64 (pc + size) + n)), i64 (0), i64 (tr)], .agg #[i64 (0), i64 (0), i64 (0), i64 (0)]]) (by simp [results, Tryd.results9, go_sem]) rfl ⟨by simp [startOk, Cpu.set, hga, HZ.out], (by (repeat (first | (with_reducible first | apply below_alloc | apply pw_below_drewN | apply below_drew1) | exact Below.refl _ _)))⟩

set_option maxRecDepth 100000 in
set_option maxHeartbeats 4000000 in
theorem start_27z (c : Cpu) (a b n size sz : Int) (k : Nat) (w : World) (hG : Glob w) (hs : ins_Size.f k 27 = some sz) (hz : sz ≠ 0) (hst : c.st = 0) (ha0 : 0 ≤ a) (ha : a < 8) (hb0 : 0 ≤ b) (hb : b < 8) (hgz : c.get a = 0) :
    Calls Tryd.prog 9 #[c.v, ins 27 a b n, i64 size] w fun e w' => e = .returned (.tuple #[(startOk c 27 a b n size (0, 0)).1.v, (startOk c 27 a b n size (0, 0)).2.v]) ∧ Below w.heap.size w w' := by
  have HG := Aside0.mk hG
  have A := Aside0.mk hs
  clear hG hs
  have e2 : (sz == 0) = false := beq_eq_false_iff_ne.mpr hz
  have e3 : decide (mn a b < 0) = false := decide_eq_false (by unfold mn; split <;> omega)
  have e4 : decide (mx a b ≥ 8) = false := decide_eq_false (by unfold mx; split <;> omega)
  clear hz
  obtain ⟨r0, r1, r2, r3, r4, r5, r6, r7, pc, st, tr⟩ := c
  subst hst
  obtain ⟨a, rfl⟩ := Int.eq_ofNat_of_zero_le ha0
  have ha' : a < 8 := by omega
  have haI : (a : Int) < 8 := by omega
  have haJ : (0 : Int) ≤ (a : Int) := by omega
  have hA := at8 r0 r1 r2 r3 r4 r5 r6 r7 pc 0 tr a ha'
  generalize hga : (⟨r0, r1, r2, r3, r4, r5, r6, r7, pc, 0, tr⟩ : Cpu).get a = ga at hA
  rw [hga] at hgz
  have TK := Aside0.mk (show step_taken.f 60 27 ga = some false by simp [step_taken.f, step_taken.j0, hgz])
  have HZ := Aside0.mk hgz
  clear hgz
  clear ha0 ha hb0 hb
  go_enter Tryd.func9, Tryd.ntmps9
  go_wp2_with (first | (go_at_call 14; (with_reducible refine (size_go k _ _ w _ HG A (by (repeat (first | (with_reducible first | apply below_alloc | apply pw_below_drewN | apply below_drew1) | exact Below.refl _ _)))).mono ?_); rintro e w' ⟨rfl, ⟨nd, rfl⟩⟩))
  go_quiet ((go_at_call 16; exact quiet_at (step_taken.calls 60 _ _ false _ TK.out)))
  go_wp2
  go_region
  go_wp2
  all_goals exact bodyPost_ret (v := .tuple #[.agg #[i64 (r0), i64 (r1), i64 (r2), i64 (r3), i64 (r4), i64 (r5), i64 (r6), i64 (r7), i64 (wrap64 (pc + size)), i64 (0), i64 (tr)], .agg #[i64 (0), i64 (0), i64 (0), i64 (0)]]) (by simp [results, Tryd.results9, go_sem]) rfl ⟨by simp [startOk, Cpu.set, hga, HZ.out], (by (repeat (first | (with_reducible first | apply below_alloc | apply pw_below_drewN | apply below_drew1) | exact Below.refl _ _)))⟩

set_option maxRecDepth 100000 in
set_option maxHeartbeats 4000000 in
theorem start_27n (c : Cpu) (a b n size sz : Int) (k : Nat) (w : World) (hG : Glob w) (hs : ins_Size.f k 27 = some sz) (hz : sz ≠ 0) (hst : c.st = 0) (ha0 : 0 ≤ a) (ha : a < 8) (hb0 : 0 ≤ b) (hb : b < 8) (hgz : c.get a ≠ 0) :
    Calls Tryd.prog 9 #[c.v, ins 27 a b n, i64 size] w fun e w' => e = .returned (.tuple #[(startOk c 27 a b n size (0, 0)).1.v, (startOk c 27 a b n size (0, 0)).2.v]) ∧ Below w.heap.size w w' := by
  have HG := Aside0.mk hG
  have A := Aside0.mk hs
  clear hG hs
  have e2 : (sz == 0) = false := beq_eq_false_iff_ne.mpr hz
  have e3 : decide (mn a b < 0) = false := decide_eq_false (by unfold mn; split <;> omega)
  have e4 : decide (mx a b ≥ 8) = false := decide_eq_false (by unfold mx; split <;> omega)
  clear hz
  obtain ⟨r0, r1, r2, r3, r4, r5, r6, r7, pc, st, tr⟩ := c
  subst hst
  obtain ⟨a, rfl⟩ := Int.eq_ofNat_of_zero_le ha0
  have ha' : a < 8 := by omega
  have haI : (a : Int) < 8 := by omega
  have haJ : (0 : Int) ≤ (a : Int) := by omega
  have hA := at8 r0 r1 r2 r3 r4 r5 r6 r7 pc 0 tr a ha'
  generalize hga : (⟨r0, r1, r2, r3, r4, r5, r6, r7, pc, 0, tr⟩ : Cpu).get a = ga at hA
  rw [hga] at hgz
  have TK := Aside0.mk (show step_taken.f 60 27 ga = some true by simp [step_taken.f, step_taken.j0, hgz])
  have HZ := Aside0.mk hgz
  clear hgz
  clear ha0 ha hb0 hb
  go_enter Tryd.func9, Tryd.ntmps9
  go_wp2_with (first | (go_at_call 14; (with_reducible refine (size_go k _ _ w _ HG A (by (repeat (first | (with_reducible first | apply below_alloc | apply pw_below_drewN | apply below_drew1) | exact Below.refl _ _)))).mono ?_); rintro e w' ⟨rfl, ⟨nd, rfl⟩⟩))
  go_quiet ((go_at_call 16; exact quiet_at (step_taken.calls 60 _ _ true _ TK.out)))
  go_wp2
  go_region
  go_wp2
  all_goals exact bodyPost_ret (v := .tuple #[.agg #[i64 (r0), i64 (r1), i64 (r2), i64 (r3), i64 (r4), i64 (r5), i64 (r6), i64 (r7), i64 (wrap64 (wrap64 (pc + size) + n)), i64 (0), i64 (tr)], .agg #[i64 (0), i64 (0), i64 (0), i64 (0)]]) (by simp [results, Tryd.results9, go_sem]) rfl ⟨by simp [startOk, Cpu.set, hga, HZ.out], (by (repeat (first | (with_reducible first | apply below_alloc | apply pw_below_drewN | apply below_drew1) | exact Below.refl _ _)))⟩
end Go.Proofs.YtjlfjkpbooholaaDoor.M
