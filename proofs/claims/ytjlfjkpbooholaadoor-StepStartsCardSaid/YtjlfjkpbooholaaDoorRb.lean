/-
  Layer 4: the document's Start, instruction by instruction, second part. Conditions: the fields may be.
-/
import Derived.Test.YtjlfjkpbooholaaDoorK
import Derived.Deep.RegionWith
import Derived.Deep.QuietTactic
import Derived.BigQuiet
import Derived.StillTailTactics
namespace Go.Proofs.YtjlfjkpbooholaaDoor.M
open Go.RowKit Go.Proofs.YtjlfjkpbooholaaDoorW.PrintWords Go.Proofs.YtjlfjkpbooholaaDoorW.PrintLast
set_option linter.unusedSimpArgs false
set_option linter.unusedVariables false
attribute [local go_sem] min_ints max_ints setCell_drewN alloc_drewN
set_option maxRecDepth 100000 in
set_option maxHeartbeats 4000000 in
theorem rstart_20 (c : Cpu) (a b n size sz : Int) (k : Nat) (w : World) (hs : cotterref03_Size.f k 20 = some sz) (hz : sz ≠ 0) (hst : c.st = 0) (ha0 : 0 ≤ a) (ha : a < 8) (hb0 : 0 ≤ b) (hb : b < 8) :
    Calls Tryd.prog 10 #[c.v, ins 20 a b n, i64 size] w fun e w' => e = .returned (.tuple #[(startOk c 20 a b n size (0, 0)).1.v, (startOk c 20 a b n size (0, 0)).2.v]) ∧ Below w.heap.size w w' := by
  have A := Aside0.mk hs
  clear hs
  have e2 : (sz == 0) = false := beq_eq_false_iff_ne.mpr hz
  clear hz
  obtain ⟨r0, r1, r2, r3, r4, r5, r6, r7, pc, st, tr⟩ := c
  subst hst
  obtain ⟨a, rfl⟩ := Int.eq_ofNat_of_zero_le ha0
  have ha' : a < 8 := by omega
  have haK : a < 11 := by omega
  have haI : (a : Int) < 8 := by omega
  have haJ : (0 : Int) ≤ (a : Int) := by omega
  have hA := at11 r0 r1 r2 r3 r4 r5 r6 r7 pc pc 0 tr a ha'
  generalize hga : (⟨r0, r1, r2, r3, r4, r5, r6, r7, pc, 0, tr⟩ : Cpu).get a = ga at hA
  obtain ⟨b, rfl⟩ := Int.eq_ofNat_of_zero_le hb0
  have hb' : b < 8 := by omega
  have hbK : b < 11 := by omega
  have hbI : (b : Int) < 8 := by omega
  have hbJ : (0 : Int) ≤ (b : Int) := by omega
  have hB := at11 r0 r1 r2 r3 r4 r5 r6 r7 pc pc 0 tr b hb'
  generalize hgb : (⟨r0, r1, r2, r3, r4, r5, r6, r7, pc, 0, tr⟩ : Cpu).get b = gb at hB
  have fa0 : decide ((a : Int) < 0) = false := decide_eq_false (by omega)
  have fa1 : decide ((a : Int) > 7) = false := decide_eq_false (by omega)
  have fb0 : decide ((b : Int) < 0) = false := decide_eq_false (by omega)
  have fb1 : decide ((b : Int) > 7) = false := decide_eq_false (by omega)
  clear ha0 ha hb0 hb
  go_enter Tryd.func10, Tryd.ntmps10
  go_wp2_with (first | (go_at_call 19; (with_reducible refine (rsize_go k _ _ _ A).mono ?_); rintro e w' ⟨rfl, ⟨nd, rfl⟩⟩))
  all_goals (try (go_region; go_wp2))
  all_goals exact bodyPost_ret (v := .tuple #[.agg #[i64 (r0), i64 (r1), i64 (r2), i64 (r3), i64 (r4), i64 (r5), i64 (r6), i64 (r7), i64 (wrap64 (wrap64 (pc + size) + n)), i64 (0), i64 (tr)], .agg #[i64 (0), i64 (0), i64 (0), i64 (0)]]) (by simp [results, Tryd.results10, go_sem]) rfl ⟨by simp [startOk, Cpu.set], (by (repeat (first | (with_reducible first | apply below_alloc | apply pw_below_drewN | apply below_drew1) | exact Below.refl _ _)))⟩

set_option maxRecDepth 100000 in
set_option maxHeartbeats 4000000 in
theorem rstart_25 (c : Cpu) (a b n size sz : Int) (k : Nat) (w : World) (hs : cotterref03_Size.f k 25 = some sz) (hz : sz ≠ 0) (hst : c.st = 0) (ha0 : 0 ≤ a) (ha : a < 8) (hb0 : 0 ≤ b) (hb : b < 8) :
    Calls Tryd.prog 10 #[c.v, ins 25 a b n, i64 size] w fun e w' => e = .returned (.tuple #[(startOk c 25 a b n size (0, 0)).1.v, (startOk c 25 a b n size (0, 0)).2.v]) ∧ Below w.heap.size w w' := by
  have A := Aside0.mk hs
  clear hs
  have e2 : (sz == 0) = false := beq_eq_false_iff_ne.mpr hz
  clear hz
  obtain ⟨r0, r1, r2, r3, r4, r5, r6, r7, pc, st, tr⟩ := c
  subst hst
  obtain ⟨a, rfl⟩ := Int.eq_ofNat_of_zero_le ha0
  have ha' : a < 8 := by omega
  have haK : a < 11 := by omega
  have haI : (a : Int) < 8 := by omega
  have haJ : (0 : Int) ≤ (a : Int) := by omega
  have hA := at11 r0 r1 r2 r3 r4 r5 r6 r7 pc pc 0 tr a ha'
  generalize hga : (⟨r0, r1, r2, r3, r4, r5, r6, r7, pc, 0, tr⟩ : Cpu).get a = ga at hA
  obtain ⟨b, rfl⟩ := Int.eq_ofNat_of_zero_le hb0
  have hb' : b < 8 := by omega
  have hbK : b < 11 := by omega
  have hbI : (b : Int) < 8 := by omega
  have hbJ : (0 : Int) ≤ (b : Int) := by omega
  have hB := at11 r0 r1 r2 r3 r4 r5 r6 r7 pc pc 0 tr b hb'
  generalize hgb : (⟨r0, r1, r2, r3, r4, r5, r6, r7, pc, 0, tr⟩ : Cpu).get b = gb at hB
  have fa0 : decide ((a : Int) < 0) = false := decide_eq_false (by omega)
  have fa1 : decide ((a : Int) > 7) = false := decide_eq_false (by omega)
  have fb0 : decide ((b : Int) < 0) = false := decide_eq_false (by omega)
  have fb1 : decide ((b : Int) > 7) = false := decide_eq_false (by omega)
  clear ha0 ha hb0 hb
  go_enter Tryd.func10, Tryd.ntmps10
  go_wp2_with (first | (go_at_call 19; (with_reducible refine (rsize_go k _ _ _ A).mono ?_); rintro e w' ⟨rfl, ⟨nd, rfl⟩⟩))
  all_goals (try (go_region; go_wp2))
  all_goals exact bodyPost_ret (v := .tuple #[.agg #[i64 (r0), i64 (r1), i64 (r2), i64 (r3), i64 (r4), i64 (r5), i64 (r6), i64 (r7), i64 (wrap64 (wrap64 (pc + size) + n)), i64 (0), i64 (tr)], .agg #[i64 (0), i64 (0), i64 (0), i64 (0)]]) (by simp [results, Tryd.results10, go_sem]) rfl ⟨by simp [startOk, Cpu.set], (by (repeat (first | (with_reducible first | apply below_alloc | apply pw_below_drewN | apply below_drew1) | exact Below.refl _ _)))⟩

set_option maxRecDepth 100000 in
set_option maxHeartbeats 4000000 in
theorem rstart_21z (c : Cpu) (a b n size sz : Int) (k : Nat) (w : World) (hs : cotterref03_Size.f k 21 = some sz) (hz : sz ≠ 0) (hst : c.st = 0) (ha0 : 0 ≤ a) (ha : a < 8) (hb0 : 0 ≤ b) (hb : b < 8) (hgz : c.get a = 0) :
    Calls Tryd.prog 10 #[c.v, ins 21 a b n, i64 size] w fun e w' => e = .returned (.tuple #[(startOk c 21 a b n size (0, 0)).1.v, (startOk c 21 a b n size (0, 0)).2.v]) ∧ Below w.heap.size w w' := by
  have A := Aside0.mk hs
  clear hs
  have e2 : (sz == 0) = false := beq_eq_false_iff_ne.mpr hz
  clear hz
  obtain ⟨r0, r1, r2, r3, r4, r5, r6, r7, pc, st, tr⟩ := c
  subst hst
  obtain ⟨a, rfl⟩ := Int.eq_ofNat_of_zero_le ha0
  have ha' : a < 8 := by omega
  have haK : a < 11 := by omega
  have haI : (a : Int) < 8 := by omega
  have haJ : (0 : Int) ≤ (a : Int) := by omega
  have hA := at11 r0 r1 r2 r3 r4 r5 r6 r7 pc pc 0 tr a ha'
  generalize hga : (⟨r0, r1, r2, r3, r4, r5, r6, r7, pc, 0, tr⟩ : Cpu).get a = ga at hA
  obtain ⟨b, rfl⟩ := Int.eq_ofNat_of_zero_le hb0
  have hb' : b < 8 := by omega
  have hbK : b < 11 := by omega
  have hbI : (b : Int) < 8 := by omega
  have hbJ : (0 : Int) ≤ (b : Int) := by omega
  have hB := at11 r0 r1 r2 r3 r4 r5 r6 r7 pc pc 0 tr b hb'
  generalize hgb : (⟨r0, r1, r2, r3, r4, r5, r6, r7, pc, 0, tr⟩ : Cpu).get b = gb at hB
  have fa0 : decide ((a : Int) < 0) = false := decide_eq_false (by omega)
  have fa1 : decide ((a : Int) > 7) = false := decide_eq_false (by omega)
  have fb0 : decide ((b : Int) < 0) = false := decide_eq_false (by omega)
  have fb1 : decide ((b : Int) > 7) = false := decide_eq_false (by omega)
  rw [hga] at hgz
  have g1 : (ga == 0) = true := beq_iff_eq.mpr hgz
  have g2 : (ga != 0) = false := bne_eq_false_iff_eq.mpr hgz
  have HZ := Aside0.mk hgz
  clear hgz
  clear ha0 ha hb0 hb
  go_enter Tryd.func10, Tryd.ntmps10
  go_wp2_with (first | (go_at_call 19; (with_reducible refine (rsize_go k _ _ _ A).mono ?_); rintro e w' ⟨rfl, ⟨nd, rfl⟩⟩))
  all_goals (try (go_region; go_wp2))
  all_goals exact bodyPost_ret (v := .tuple #[.agg #[i64 (r0), i64 (r1), i64 (r2), i64 (r3), i64 (r4), i64 (r5), i64 (r6), i64 (r7), i64 (wrap64 (wrap64 (pc + size) + n)), i64 (0), i64 (tr)], .agg #[i64 (0), i64 (0), i64 (0), i64 (0)]]) (by simp [results, Tryd.results10, go_sem]) rfl ⟨by simp [startOk, Cpu.set, hga, HZ.out], (by (repeat (first | (with_reducible first | apply below_alloc | apply pw_below_drewN | apply below_drew1) | exact Below.refl _ _)))⟩

set_option maxRecDepth 100000 in
set_option maxHeartbeats 4000000 in
theorem rstart_21n (c : Cpu) (a b n size sz : Int) (k : Nat) (w : World) (hs : cotterref03_Size.f k 21 = some sz) (hz : sz ≠ 0) (hst : c.st = 0) (ha0 : 0 ≤ a) (ha : a < 8) (hb0 : 0 ≤ b) (hb : b < 8) (hgz : c.get a ≠ 0) :
    Calls Tryd.prog 10 #[c.v, ins 21 a b n, i64 size] w fun e w' => e = .returned (.tuple #[(startOk c 21 a b n size (0, 0)).1.v, (startOk c 21 a b n size (0, 0)).2.v]) ∧ Below w.heap.size w w' := by
  have A := Aside0.mk hs
  clear hs
  have e2 : (sz == 0) = false := beq_eq_false_iff_ne.mpr hz
  clear hz
  obtain ⟨r0, r1, r2, r3, r4, r5, r6, r7, pc, st, tr⟩ := c
  subst hst
  obtain ⟨a, rfl⟩ := Int.eq_ofNat_of_zero_le ha0
  have ha' : a < 8 := by omega
  have haK : a < 11 := by omega
  have haI : (a : Int) < 8 := by omega
  have haJ : (0 : Int) ≤ (a : Int) := by omega
  have hA := at11 r0 r1 r2 r3 r4 r5 r6 r7 pc pc 0 tr a ha'
  generalize hga : (⟨r0, r1, r2, r3, r4, r5, r6, r7, pc, 0, tr⟩ : Cpu).get a = ga at hA
  obtain ⟨b, rfl⟩ := Int.eq_ofNat_of_zero_le hb0
  have hb' : b < 8 := by omega
  have hbK : b < 11 := by omega
  have hbI : (b : Int) < 8 := by omega
  have hbJ : (0 : Int) ≤ (b : Int) := by omega
  have hB := at11 r0 r1 r2 r3 r4 r5 r6 r7 pc pc 0 tr b hb'
  generalize hgb : (⟨r0, r1, r2, r3, r4, r5, r6, r7, pc, 0, tr⟩ : Cpu).get b = gb at hB
  have fa0 : decide ((a : Int) < 0) = false := decide_eq_false (by omega)
  have fa1 : decide ((a : Int) > 7) = false := decide_eq_false (by omega)
  have fb0 : decide ((b : Int) < 0) = false := decide_eq_false (by omega)
  have fb1 : decide ((b : Int) > 7) = false := decide_eq_false (by omega)
  rw [hga] at hgz
  have g1 : (ga == 0) = false := beq_eq_false_iff_ne.mpr hgz
  have g2 : (ga != 0) = true := bne_iff_ne.mpr hgz
  have HZ := Aside0.mk hgz
  clear hgz
  clear ha0 ha hb0 hb
  go_enter Tryd.func10, Tryd.ntmps10
  go_wp2_with (first | (go_at_call 19; (with_reducible refine (rsize_go k _ _ _ A).mono ?_); rintro e w' ⟨rfl, ⟨nd, rfl⟩⟩))
  all_goals (try (go_region; go_wp2))
  all_goals exact bodyPost_ret (v := .tuple #[.agg #[i64 (r0), i64 (r1), i64 (r2), i64 (r3), i64 (r4), i64 (r5), i64 (r6), i64 (r7), i64 (wrap64 (pc + size)), i64 (0), i64 (tr)], .agg #[i64 (0), i64 (0), i64 (0), i64 (0)]]) (by simp [results, Tryd.results10, go_sem]) rfl ⟨by simp [startOk, Cpu.set, hga, HZ.out], (by (repeat (first | (with_reducible first | apply below_alloc | apply pw_below_drewN | apply below_drew1) | exact Below.refl _ _)))⟩

set_option maxRecDepth 100000 in
set_option maxHeartbeats 4000000 in
theorem rstart_26z (c : Cpu) (a b n size sz : Int) (k : Nat) (w : World) (hs : cotterref03_Size.f k 26 = some sz) (hz : sz ≠ 0) (hst : c.st = 0) (ha0 : 0 ≤ a) (ha : a < 8) (hb0 : 0 ≤ b) (hb : b < 8) (hgz : c.get a = 0) :
    Calls Tryd.prog 10 #[c.v, ins 26 a b n, i64 size] w fun e w' => e = .returned (.tuple #[(startOk c 26 a b n size (0, 0)).1.v, (startOk c 26 a b n size (0, 0)).2.v]) ∧ Below w.heap.size w w' := by
  have A := Aside0.mk hs
  clear hs
  have e2 : (sz == 0) = false := beq_eq_false_iff_ne.mpr hz
  clear hz
  obtain ⟨r0, r1, r2, r3, r4, r5, r6, r7, pc, st, tr⟩ := c
  subst hst
  obtain ⟨a, rfl⟩ := Int.eq_ofNat_of_zero_le ha0
  have ha' : a < 8 := by omega
  have haK : a < 11 := by omega
  have haI : (a : Int) < 8 := by omega
  have haJ : (0 : Int) ≤ (a : Int) := by omega
  have hA := at11 r0 r1 r2 r3 r4 r5 r6 r7 pc pc 0 tr a ha'
  generalize hga : (⟨r0, r1, r2, r3, r4, r5, r6, r7, pc, 0, tr⟩ : Cpu).get a = ga at hA
  obtain ⟨b, rfl⟩ := Int.eq_ofNat_of_zero_le hb0
  have hb' : b < 8 := by omega
  have hbK : b < 11 := by omega
  have hbI : (b : Int) < 8 := by omega
  have hbJ : (0 : Int) ≤ (b : Int) := by omega
  have hB := at11 r0 r1 r2 r3 r4 r5 r6 r7 pc pc 0 tr b hb'
  generalize hgb : (⟨r0, r1, r2, r3, r4, r5, r6, r7, pc, 0, tr⟩ : Cpu).get b = gb at hB
  have fa0 : decide ((a : Int) < 0) = false := decide_eq_false (by omega)
  have fa1 : decide ((a : Int) > 7) = false := decide_eq_false (by omega)
  have fb0 : decide ((b : Int) < 0) = false := decide_eq_false (by omega)
  have fb1 : decide ((b : Int) > 7) = false := decide_eq_false (by omega)
  rw [hga] at hgz
  have g1 : (ga == 0) = true := beq_iff_eq.mpr hgz
  have g2 : (ga != 0) = false := bne_eq_false_iff_eq.mpr hgz
  have HZ := Aside0.mk hgz
  clear hgz
  clear ha0 ha hb0 hb
  go_enter Tryd.func10, Tryd.ntmps10
  go_wp2_with (first | (go_at_call 19; (with_reducible refine (rsize_go k _ _ _ A).mono ?_); rintro e w' ⟨rfl, ⟨nd, rfl⟩⟩))
  all_goals (try (go_region; go_wp2))
  all_goals exact bodyPost_ret (v := .tuple #[.agg #[i64 (r0), i64 (r1), i64 (r2), i64 (r3), i64 (r4), i64 (r5), i64 (r6), i64 (r7), i64 (wrap64 (wrap64 (pc + size) + n)), i64 (0), i64 (tr)], .agg #[i64 (0), i64 (0), i64 (0), i64 (0)]]) (by simp [results, Tryd.results10, go_sem]) rfl ⟨by simp [startOk, Cpu.set, hga, HZ.out], (by (repeat (first | (with_reducible first | apply below_alloc | apply pw_below_drewN | apply below_drew1) | exact Below.refl _ _)))⟩

set_option maxRecDepth 100000 in
set_option maxHeartbeats 4000000 in
theorem rstart_26n (c : Cpu) (a b n size sz : Int) (k : Nat) (w : World) (hs : cotterref03_Size.f k 26 = some sz) (hz : sz ≠ 0) (hst : c.st = 0) (ha0 : 0 ≤ a) (ha : a < 8) (hb0 : 0 ≤ b) (hb : b < 8) (hgz : c.get a ≠ 0) :
    Calls Tryd.prog 10 #[c.v, ins 26 a b n, i64 size] w fun e w' => e = .returned (.tuple #[(startOk c 26 a b n size (0, 0)).1.v, (startOk c 26 a b n size (0, 0)).2.v]) ∧ Below w.heap.size w w' := by
  have A := Aside0.mk hs
  clear hs
  have e2 : (sz == 0) = false := beq_eq_false_iff_ne.mpr hz
  clear hz
  obtain ⟨r0, r1, r2, r3, r4, r5, r6, r7, pc, st, tr⟩ := c
  subst hst
  obtain ⟨a, rfl⟩ := Int.eq_ofNat_of_zero_le ha0
  have ha' : a < 8 := by omega
  have haK : a < 11 := by omega
  have haI : (a : Int) < 8 := by omega
  have haJ : (0 : Int) ≤ (a : Int) := by omega
  have hA := at11 r0 r1 r2 r3 r4 r5 r6 r7 pc pc 0 tr a ha'
  generalize hga : (⟨r0, r1, r2, r3, r4, r5, r6, r7, pc, 0, tr⟩ : Cpu).get a = ga at hA
  obtain ⟨b, rfl⟩ := Int.eq_ofNat_of_zero_le hb0
  have hb' : b < 8 := by omega
  have hbK : b < 11 := by omega
  have hbI : (b : Int) < 8 := by omega
  have hbJ : (0 : Int) ≤ (b : Int) := by omega
  have hB := at11 r0 r1 r2 r3 r4 r5 r6 r7 pc pc 0 tr b hb'
  generalize hgb : (⟨r0, r1, r2, r3, r4, r5, r6, r7, pc, 0, tr⟩ : Cpu).get b = gb at hB
  have fa0 : decide ((a : Int) < 0) = false := decide_eq_false (by omega)
  have fa1 : decide ((a : Int) > 7) = false := decide_eq_false (by omega)
  have fb0 : decide ((b : Int) < 0) = false := decide_eq_false (by omega)
  have fb1 : decide ((b : Int) > 7) = false := decide_eq_false (by omega)
  rw [hga] at hgz
  have g1 : (ga == 0) = false := beq_eq_false_iff_ne.mpr hgz
  have g2 : (ga != 0) = true := bne_iff_ne.mpr hgz
  have HZ := Aside0.mk hgz
  clear hgz
  clear ha0 ha hb0 hb
  go_enter Tryd.func10, Tryd.ntmps10
  go_wp2_with (first | (go_at_call 19; (with_reducible refine (rsize_go k _ _ _ A).mono ?_); rintro e w' ⟨rfl, ⟨nd, rfl⟩⟩))
  all_goals (try (go_region; go_wp2))
  all_goals exact bodyPost_ret (v := .tuple #[.agg #[i64 (r0), i64 (r1), i64 (r2), i64 (r3), i64 (r4), i64 (r5), i64 (r6), i64 (r7), i64 (wrap64 (pc + size)), i64 (0), i64 (tr)], .agg #[i64 (0), i64 (0), i64 (0), i64 (0)]]) (by simp [results, Tryd.results10, go_sem]) rfl ⟨by simp [startOk, Cpu.set, hga, HZ.out], (by (repeat (first | (with_reducible first | apply below_alloc | apply pw_below_drewN | apply below_drew1) | exact Below.refl _ _)))⟩

set_option maxRecDepth 100000 in
set_option maxHeartbeats 4000000 in
theorem rstart_22z (c : Cpu) (a b n size sz : Int) (k : Nat) (w : World) (hs : cotterref03_Size.f k 22 = some sz) (hz : sz ≠ 0) (hst : c.st = 0) (ha0 : 0 ≤ a) (ha : a < 8) (hb0 : 0 ≤ b) (hb : b < 8) (hgz : c.get a = 0) :
    Calls Tryd.prog 10 #[c.v, ins 22 a b n, i64 size] w fun e w' => e = .returned (.tuple #[(startOk c 22 a b n size (0, 0)).1.v, (startOk c 22 a b n size (0, 0)).2.v]) ∧ Below w.heap.size w w' := by
  have A := Aside0.mk hs
  clear hs
  have e2 : (sz == 0) = false := beq_eq_false_iff_ne.mpr hz
  clear hz
  obtain ⟨r0, r1, r2, r3, r4, r5, r6, r7, pc, st, tr⟩ := c
  subst hst
  obtain ⟨a, rfl⟩ := Int.eq_ofNat_of_zero_le ha0
  have ha' : a < 8 := by omega
  have haK : a < 11 := by omega
  have haI : (a : Int) < 8 := by omega
  have haJ : (0 : Int) ≤ (a : Int) := by omega
  have hA := at11 r0 r1 r2 r3 r4 r5 r6 r7 pc pc 0 tr a ha'
  generalize hga : (⟨r0, r1, r2, r3, r4, r5, r6, r7, pc, 0, tr⟩ : Cpu).get a = ga at hA
  obtain ⟨b, rfl⟩ := Int.eq_ofNat_of_zero_le hb0
  have hb' : b < 8 := by omega
  have hbK : b < 11 := by omega
  have hbI : (b : Int) < 8 := by omega
  have hbJ : (0 : Int) ≤ (b : Int) := by omega
  have hB := at11 r0 r1 r2 r3 r4 r5 r6 r7 pc pc 0 tr b hb'
  generalize hgb : (⟨r0, r1, r2, r3, r4, r5, r6, r7, pc, 0, tr⟩ : Cpu).get b = gb at hB
  have fa0 : decide ((a : Int) < 0) = false := decide_eq_false (by omega)
  have fa1 : decide ((a : Int) > 7) = false := decide_eq_false (by omega)
  have fb0 : decide ((b : Int) < 0) = false := decide_eq_false (by omega)
  have fb1 : decide ((b : Int) > 7) = false := decide_eq_false (by omega)
  rw [hga] at hgz
  have g1 : (ga == 0) = true := beq_iff_eq.mpr hgz
  have g2 : (ga != 0) = false := bne_eq_false_iff_eq.mpr hgz
  have HZ := Aside0.mk hgz
  clear hgz
  clear ha0 ha hb0 hb
  go_enter Tryd.func10, Tryd.ntmps10
  go_wp2_with (first | (go_at_call 19; (with_reducible refine (rsize_go k _ _ _ A).mono ?_); rintro e w' ⟨rfl, ⟨nd, rfl⟩⟩))
  all_goals (try (go_region; go_wp2))
  all_goals exact bodyPost_ret (v := .tuple #[.agg #[i64 (r0), i64 (r1), i64 (r2), i64 (r3), i64 (r4), i64 (r5), i64 (r6), i64 (r7), i64 (wrap64 (pc + size)), i64 (0), i64 (tr)], .agg #[i64 (0), i64 (0), i64 (0), i64 (0)]]) (by simp [results, Tryd.results10, go_sem]) rfl ⟨by simp [startOk, Cpu.set, hga, HZ.out], (by (repeat (first | (with_reducible first | apply below_alloc | apply pw_below_drewN | apply below_drew1) | exact Below.refl _ _)))⟩

set_option maxRecDepth 100000 in
set_option maxHeartbeats 4000000 in
theorem rstart_22n (c : Cpu) (a b n size sz : Int) (k : Nat) (w : World) (hs : cotterref03_Size.f k 22 = some sz) (hz : sz ≠ 0) (hst : c.st = 0) (ha0 : 0 ≤ a) (ha : a < 8) (hb0 : 0 ≤ b) (hb : b < 8) (hgz : c.get a ≠ 0) :
    Calls Tryd.prog 10 #[c.v, ins 22 a b n, i64 size] w fun e w' => e = .returned (.tuple #[(startOk c 22 a b n size (0, 0)).1.v, (startOk c 22 a b n size (0, 0)).2.v]) ∧ Below w.heap.size w w' := by
  have A := Aside0.mk hs
  clear hs
  have e2 : (sz == 0) = false := beq_eq_false_iff_ne.mpr hz
  clear hz
  obtain ⟨r0, r1, r2, r3, r4, r5, r6, r7, pc, st, tr⟩ := c
  subst hst
  obtain ⟨a, rfl⟩ := Int.eq_ofNat_of_zero_le ha0
  have ha' : a < 8 := by omega
  have haK : a < 11 := by omega
  have haI : (a : Int) < 8 := by omega
  have haJ : (0 : Int) ≤ (a : Int) := by omega
  have hA := at11 r0 r1 r2 r3 r4 r5 r6 r7 pc pc 0 tr a ha'
  generalize hga : (⟨r0, r1, r2, r3, r4, r5, r6, r7, pc, 0, tr⟩ : Cpu).get a = ga at hA
  obtain ⟨b, rfl⟩ := Int.eq_ofNat_of_zero_le hb0
  have hb' : b < 8 := by omega
  have hbK : b < 11 := by omega
  have hbI : (b : Int) < 8 := by omega
  have hbJ : (0 : Int) ≤ (b : Int) := by omega
  have hB := at11 r0 r1 r2 r3 r4 r5 r6 r7 pc pc 0 tr b hb'
  generalize hgb : (⟨r0, r1, r2, r3, r4, r5, r6, r7, pc, 0, tr⟩ : Cpu).get b = gb at hB
  have fa0 : decide ((a : Int) < 0) = false := decide_eq_false (by omega)
  have fa1 : decide ((a : Int) > 7) = false := decide_eq_false (by omega)
  have fb0 : decide ((b : Int) < 0) = false := decide_eq_false (by omega)
  have fb1 : decide ((b : Int) > 7) = false := decide_eq_false (by omega)
  rw [hga] at hgz
  have g1 : (ga == 0) = false := beq_eq_false_iff_ne.mpr hgz
  have g2 : (ga != 0) = true := bne_iff_ne.mpr hgz
  have HZ := Aside0.mk hgz
  clear hgz
  clear ha0 ha hb0 hb
  go_enter Tryd.func10, Tryd.ntmps10
  go_wp2_with (first | (go_at_call 19; (with_reducible refine (rsize_go k _ _ _ A).mono ?_); rintro e w' ⟨rfl, ⟨nd, rfl⟩⟩))
  all_goals (try (go_region; go_wp2))
  all_goals exact bodyPost_ret (v := .tuple #[.agg #[i64 (r0), i64 (r1), i64 (r2), i64 (r3), i64 (r4), i64 (r5), i64 (r6), i64 (r7), i64 (wrap64 (wrap64 (pc + size) + n)), i64 (0), i64 (tr)], .agg #[i64 (0), i64 (0), i64 (0), i64 (0)]]) (by simp [results, Tryd.results10, go_sem]) rfl ⟨by simp [startOk, Cpu.set, hga, HZ.out], (by (repeat (first | (with_reducible first | apply below_alloc | apply pw_below_drewN | apply below_drew1) | exact Below.refl _ _)))⟩

set_option maxRecDepth 100000 in
set_option maxHeartbeats 4000000 in
theorem rstart_27z (c : Cpu) (a b n size sz : Int) (k : Nat) (w : World) (hs : cotterref03_Size.f k 27 = some sz) (hz : sz ≠ 0) (hst : c.st = 0) (ha0 : 0 ≤ a) (ha : a < 8) (hb0 : 0 ≤ b) (hb : b < 8) (hgz : c.get a = 0) :
    Calls Tryd.prog 10 #[c.v, ins 27 a b n, i64 size] w fun e w' => e = .returned (.tuple #[(startOk c 27 a b n size (0, 0)).1.v, (startOk c 27 a b n size (0, 0)).2.v]) ∧ Below w.heap.size w w' := by
  have A := Aside0.mk hs
  clear hs
  have e2 : (sz == 0) = false := beq_eq_false_iff_ne.mpr hz
  clear hz
  obtain ⟨r0, r1, r2, r3, r4, r5, r6, r7, pc, st, tr⟩ := c
  subst hst
  obtain ⟨a, rfl⟩ := Int.eq_ofNat_of_zero_le ha0
  have ha' : a < 8 := by omega
  have haK : a < 11 := by omega
  have haI : (a : Int) < 8 := by omega
  have haJ : (0 : Int) ≤ (a : Int) := by omega
  have hA := at11 r0 r1 r2 r3 r4 r5 r6 r7 pc pc 0 tr a ha'
  generalize hga : (⟨r0, r1, r2, r3, r4, r5, r6, r7, pc, 0, tr⟩ : Cpu).get a = ga at hA
  obtain ⟨b, rfl⟩ := Int.eq_ofNat_of_zero_le hb0
  have hb' : b < 8 := by omega
  have hbK : b < 11 := by omega
  have hbI : (b : Int) < 8 := by omega
  have hbJ : (0 : Int) ≤ (b : Int) := by omega
  have hB := at11 r0 r1 r2 r3 r4 r5 r6 r7 pc pc 0 tr b hb'
  generalize hgb : (⟨r0, r1, r2, r3, r4, r5, r6, r7, pc, 0, tr⟩ : Cpu).get b = gb at hB
  have fa0 : decide ((a : Int) < 0) = false := decide_eq_false (by omega)
  have fa1 : decide ((a : Int) > 7) = false := decide_eq_false (by omega)
  have fb0 : decide ((b : Int) < 0) = false := decide_eq_false (by omega)
  have fb1 : decide ((b : Int) > 7) = false := decide_eq_false (by omega)
  rw [hga] at hgz
  have g1 : (ga == 0) = true := beq_iff_eq.mpr hgz
  have g2 : (ga != 0) = false := bne_eq_false_iff_eq.mpr hgz
  have HZ := Aside0.mk hgz
  clear hgz
  clear ha0 ha hb0 hb
  go_enter Tryd.func10, Tryd.ntmps10
  go_wp2_with (first | (go_at_call 19; (with_reducible refine (rsize_go k _ _ _ A).mono ?_); rintro e w' ⟨rfl, ⟨nd, rfl⟩⟩))
  all_goals (try (go_region; go_wp2))
  all_goals exact bodyPost_ret (v := .tuple #[.agg #[i64 (r0), i64 (r1), i64 (r2), i64 (r3), i64 (r4), i64 (r5), i64 (r6), i64 (r7), i64 (wrap64 (pc + size)), i64 (0), i64 (tr)], .agg #[i64 (0), i64 (0), i64 (0), i64 (0)]]) (by simp [results, Tryd.results10, go_sem]) rfl ⟨by simp [startOk, Cpu.set, hga, HZ.out], (by (repeat (first | (with_reducible first | apply below_alloc | apply pw_below_drewN | apply below_drew1) | exact Below.refl _ _)))⟩

set_option maxRecDepth 100000 in
set_option maxHeartbeats 4000000 in
theorem rstart_27n (c : Cpu) (a b n size sz : Int) (k : Nat) (w : World) (hs : cotterref03_Size.f k 27 = some sz) (hz : sz ≠ 0) (hst : c.st = 0) (ha0 : 0 ≤ a) (ha : a < 8) (hb0 : 0 ≤ b) (hb : b < 8) (hgz : c.get a ≠ 0) :
    Calls Tryd.prog 10 #[c.v, ins 27 a b n, i64 size] w fun e w' => e = .returned (.tuple #[(startOk c 27 a b n size (0, 0)).1.v, (startOk c 27 a b n size (0, 0)).2.v]) ∧ Below w.heap.size w w' := by
  have A := Aside0.mk hs
  clear hs
  have e2 : (sz == 0) = false := beq_eq_false_iff_ne.mpr hz
  clear hz
  obtain ⟨r0, r1, r2, r3, r4, r5, r6, r7, pc, st, tr⟩ := c
  subst hst
  obtain ⟨a, rfl⟩ := Int.eq_ofNat_of_zero_le ha0
  have ha' : a < 8 := by omega
  have haK : a < 11 := by omega
  have haI : (a : Int) < 8 := by omega
  have haJ : (0 : Int) ≤ (a : Int) := by omega
  have hA := at11 r0 r1 r2 r3 r4 r5 r6 r7 pc pc 0 tr a ha'
  generalize hga : (⟨r0, r1, r2, r3, r4, r5, r6, r7, pc, 0, tr⟩ : Cpu).get a = ga at hA
  obtain ⟨b, rfl⟩ := Int.eq_ofNat_of_zero_le hb0
  have hb' : b < 8 := by omega
  have hbK : b < 11 := by omega
  have hbI : (b : Int) < 8 := by omega
  have hbJ : (0 : Int) ≤ (b : Int) := by omega
  have hB := at11 r0 r1 r2 r3 r4 r5 r6 r7 pc pc 0 tr b hb'
  generalize hgb : (⟨r0, r1, r2, r3, r4, r5, r6, r7, pc, 0, tr⟩ : Cpu).get b = gb at hB
  have fa0 : decide ((a : Int) < 0) = false := decide_eq_false (by omega)
  have fa1 : decide ((a : Int) > 7) = false := decide_eq_false (by omega)
  have fb0 : decide ((b : Int) < 0) = false := decide_eq_false (by omega)
  have fb1 : decide ((b : Int) > 7) = false := decide_eq_false (by omega)
  rw [hga] at hgz
  have g1 : (ga == 0) = false := beq_eq_false_iff_ne.mpr hgz
  have g2 : (ga != 0) = true := bne_iff_ne.mpr hgz
  have HZ := Aside0.mk hgz
  clear hgz
  clear ha0 ha hb0 hb
  go_enter Tryd.func10, Tryd.ntmps10
  go_wp2_with (first | (go_at_call 19; (with_reducible refine (rsize_go k _ _ _ A).mono ?_); rintro e w' ⟨rfl, ⟨nd, rfl⟩⟩))
  all_goals (try (go_region; go_wp2))
  all_goals exact bodyPost_ret (v := .tuple #[.agg #[i64 (r0), i64 (r1), i64 (r2), i64 (r3), i64 (r4), i64 (r5), i64 (r6), i64 (r7), i64 (wrap64 (wrap64 (pc + size) + n)), i64 (0), i64 (tr)], .agg #[i64 (0), i64 (0), i64 (0), i64 (0)]]) (by simp [results, Tryd.results10, go_sem]) rfl ⟨by simp [startOk, Cpu.set, hga, HZ.out], (by (repeat (first | (with_reducible first | apply below_alloc | apply pw_below_drewN | apply below_drew1) | exact Below.refl _ _)))⟩
end Go.Proofs.YtjlfjkpbooholaaDoor.M
