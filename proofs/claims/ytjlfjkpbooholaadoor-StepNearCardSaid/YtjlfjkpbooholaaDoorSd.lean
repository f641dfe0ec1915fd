/-
  Layer 4: package step's Start at the instructions that word.Bin does. Conditions: the fields may be.
-/
import Derived.Test.YtjlfjkpbooholaaDoorK
import Derived.Deep.RegionWith
import Derived.Deep.QuietTactic
import Derived.BigQuiet
import Derived.StillTailTactics
namespace Go.Proofs.YtjlfjkpbooholaaDoor.M
open Go.RowKit Go.Proofs.YtjlfjkpbooholaaDoorW.PrintWords Go.Proofs.YtjlfjkpbooholaaDoorW.PrintLast
set_option linter.unusedSimpArgs false
set_option linter.unusedVariables false
attribute [local go_sem] min_ints max_ints setCell_drewN alloc_drewN
theorem startOk_bin (c : Cpu) (op a b n size : Int) (ho : 3 ≤ op) (ho' : op ≤ 16) (z : Int × Int) : startOk c op a b n size z = if z.2 = 0 then (({ c with pc := wrap64 (c.pc + size) } : Cpu).set a z.1, ⟨0, 0, 0, 0⟩) else ({ c with st := 2, tr := 1 }, ⟨0, 0, 0, 0⟩) := by
  simp only [startOk, Cpu.set, show ¬ (op = 1 ∨ op = 19) by omega, show ¬ op = 2 by omega, show ¬ op = 17 by omega, show ¬ op = 18 by omega, show ¬ op = 28 by omega, show ¬ op = 29 by omega, show ¬ op = 23 by omega, show ¬ op = 24 by omega, show ¬ op = 30 by omega, show ¬ op = 31 by omega, show ¬ op = 32 by omega, show ¬ op = 33 by omega, show ¬ (op = 20 ∨ op = 25) by omega, show ¬ (op = 21 ∨ op = 26) by omega, show ¬ (op = 22 ∨ op = 27) by omega, if_false]
set_option maxRecDepth 100000 in
set_option maxHeartbeats 4000000 in
theorem start_bin (c : Cpu) (op a b n size sz : Int) (k : Nat) (w : World) (hG : Glob w) (hs : ins_Size.f k op = some sz) (hz : sz ≠ 0) (hst : c.st = 0) (ha0 : 0 ≤ a) (ha : a < 8) (hb0 : 0 ≤ b) (hb : b < 8) (ho : 3 ≤ op) (ho' : op ≤ 16) (vb eb : Int) (hbin : word_Bin.f 100 op (c.get a) (c.get b) = some (vb, 0)) :
    Calls Tryd.prog 9 #[c.v, ins op a b n, i64 size] w fun e w' => e = .returned (.tuple #[(startOk c op a b n size (vb, 0)).1.v, (startOk c op a b n size (vb, 0)).2.v]) ∧ Below w.heap.size w w' := by
  have HG := Aside0.mk hG
  have A := Aside0.mk hs
  clear hG hs
  have e2 : (sz == 0) = false := beq_eq_false_iff_ne.mpr hz
  have e3 : decide (mn a b < 0) = false := decide_eq_false (by unfold mn; split <;> omega)
  have e4 : decide (mx a b ≥ 8) = false := decide_eq_false (by unfold mx; split <;> omega)
  clear hz
  obtain ⟨r0, r1, r2, r3, r4, r5, r6, r7, pc, st, tr⟩ := c
  subst hst
  obtain ⟨b, rfl⟩ := Int.eq_ofNat_of_zero_le hb0
  have hb' : b < 8 := by omega
  have hbI : (b : Int) < 8 := by omega
  have hbJ : (0 : Int) ≤ (b : Int) := by omega
  have hB := at8 r0 r1 r2 r3 r4 r5 r6 r7 pc 0 tr b hb'
  generalize hgb : (⟨r0, r1, r2, r3, r4, r5, r6, r7, pc, 0, tr⟩ : Cpu).get b = gb at hB hbin
  have o1 : (op == 1) = false := by rw [beq_eq_false_iff_ne]; omega
  have o19 : (op == 19) = false := by rw [beq_eq_false_iff_ne]; omega
  have o2 : (op == 2) = false := by rw [beq_eq_false_iff_ne]; omega
  have o17 : (op == 17) = false := by rw [beq_eq_false_iff_ne]; omega
  have o18 : (op == 18) = false := by rw [beq_eq_false_iff_ne]; omega
  have o28 : (op == 28) = false := by rw [beq_eq_false_iff_ne]; omega
  have o29 : (op == 29) = false := by rw [beq_eq_false_iff_ne]; omega
  have o20 : (op == 20) = false := by rw [beq_eq_false_iff_ne]; omega
  have o25 : (op == 25) = false := by rw [beq_eq_false_iff_ne]; omega
  have o21 : (op == 21) = false := by rw [beq_eq_false_iff_ne]; omega
  have o26 : (op == 26) = false := by rw [beq_eq_false_iff_ne]; omega
  have o22 : (op == 22) = false := by rw [beq_eq_false_iff_ne]; omega
  have o27 : (op == 27) = false := by rw [beq_eq_false_iff_ne]; omega
  have o23 : (op == 23) = false := by rw [beq_eq_false_iff_ne]; omega
  have o24 : (op == 24) = false := by rw [beq_eq_false_iff_ne]; omega
  have o30 : (op == 30) = false := by rw [beq_eq_false_iff_ne]; omega
  have o31 : (op == 31) = false := by rw [beq_eq_false_iff_ne]; omega
  have o32 : (op == 32) = false := by rw [beq_eq_false_iff_ne]; omega
  have o33 : (op == 33) = false := by rw [beq_eq_false_iff_ne]; omega
  clear hb0 hb
  rcases eightI a ha0 ha with rfl | rfl | rfl | rfl | rfl | rfl | rfl | rfl
  · have BN := Aside0.mk (show word_Bin.f 100 op r0 gb = some (vb, 0) from hbin)
    clear hbin
    have SO := Aside0.mk (startOk_bin ⟨r0, r1, r2, r3, r4, r5, r6, r7, pc, 0, tr⟩ op 0 (b : Int) n size ho ho')
    clear ha0 ha ho ho'
    go_enter Tryd.func9, Tryd.ntmps9
    go_wp2_with (first | (go_at_call 14; (with_reducible refine (size_go k _ _ w _ HG A (by (repeat (first | (with_reducible first | apply below_alloc | apply pw_below_drewN | apply below_drew1) | exact Below.refl _ _)))).mono ?_); rintro e w' ⟨rfl, ⟨nd, rfl⟩⟩))
    go_quiet ((go_at_call 18; exact quiet_at (word_Bin.calls 100 _ _ _ _ _ _ BN.out)))
    go_wp2
    go_region
    go_wp2
    all_goals exact bodyPost_ret (v := .tuple #[.agg #[i64 (vb), i64 (r1), i64 (r2), i64 (r3), i64 (r4), i64 (r5), i64 (r6), i64 (r7), i64 (wrap64 (pc + size)), i64 (0), i64 (tr)], .agg #[i64 (0), i64 (0), i64 (0), i64 (0)]]) (by simp [results, Tryd.results9, go_sem]) rfl ⟨by simp [SO.out, Cpu.set], (by (repeat (first | (with_reducible first | apply below_alloc | apply pw_below_drewN | apply below_drew1) | exact Below.refl _ _)))⟩
  · have BN := Aside0.mk (show word_Bin.f 100 op r1 gb = some (vb, 0) from hbin)
    clear hbin
    have SO := Aside0.mk (startOk_bin ⟨r0, r1, r2, r3, r4, r5, r6, r7, pc, 0, tr⟩ op 1 (b : Int) n size ho ho')
    clear ha0 ha ho ho'
    go_enter Tryd.func9, Tryd.ntmps9
    go_wp2_with (first | (go_at_call 14; (with_reducible refine (size_go k _ _ w _ HG A (by (repeat (first | (with_reducible first | apply below_alloc | apply pw_below_drewN | apply below_drew1) | exact Below.refl _ _)))).mono ?_); rintro e w' ⟨rfl, ⟨nd, rfl⟩⟩))
    go_quiet ((go_at_call 18; exact quiet_at (word_Bin.calls 100 _ _ _ _ _ _ BN.out)))
    go_wp2
    go_region
    go_wp2
    all_goals exact bodyPost_ret (v := .tuple #[.agg #[i64 (r0), i64 (vb), i64 (r2), i64 (r3), i64 (r4), i64 (r5), i64 (r6), i64 (r7), i64 (wrap64 (pc + size)), i64 (0), i64 (tr)], .agg #[i64 (0), i64 (0), i64 (0), i64 (0)]]) (by simp [results, Tryd.results9, go_sem]) rfl ⟨by simp [SO.out, Cpu.set], (by (repeat (first | (with_reducible first | apply below_alloc | apply pw_below_drewN | apply below_drew1) | exact Below.refl _ _)))⟩
  · have BN := Aside0.mk (show word_Bin.f 100 op r2 gb = some (vb, 0) from hbin)
    clear hbin
    have SO := Aside0.mk (startOk_bin ⟨r0, r1, r2, r3, r4, r5, r6, r7, pc, 0, tr⟩ op 2 (b : Int) n size ho ho')
    clear ha0 ha ho ho'
    go_enter Tryd.func9, Tryd.ntmps9
    go_wp2_with (first | (go_at_call 14; (with_reducible refine (size_go k _ _ w _ HG A (by (repeat (first | (with_reducible first | apply below_alloc | apply pw_below_drewN | apply below_drew1) | exact Below.refl _ _)))).mono ?_); rintro e w' ⟨rfl, ⟨nd, rfl⟩⟩))
    go_quiet ((go_at_call 18; exact quiet_at (word_Bin.calls 100 _ _ _ _ _ _ BN.out)))
    go_wp2
    go_region
    go_wp2
    all_goals exact bodyPost_ret (v := .tuple #[.agg #[i64 (r0), i64 (r1), i64 (vb), i64 (r3), i64 (r4), i64 (r5), i64 (r6), i64 (r7), i64 (wrap64 (pc + size)), i64 (0), i64 (tr)], .agg #[i64 (0), i64 (0), i64 (0), i64 (0)]]) (by simp [results, Tryd.results9, go_sem]) rfl ⟨by simp [SO.out, Cpu.set], (by (repeat (first | (with_reducible first | apply below_alloc | apply pw_below_drewN | apply below_drew1) | exact Below.refl _ _)))⟩
  · have BN := Aside0.mk (show word_Bin.f 100 op r3 gb = some (vb, 0) from hbin)
    clear hbin
    have SO := Aside0.mk (startOk_bin ⟨r0, r1, r2, r3, r4, r5, r6, r7, pc, 0, tr⟩ op 3 (b : Int) n size ho ho')
    clear ha0 ha ho ho'
    go_enter Tryd.func9, Tryd.ntmps9
    go_wp2_with (first | (go_at_call 14; (with_reducible refine (size_go k _ _ w _ HG A (by (repeat (first | (with_reducible first | apply below_alloc | apply pw_below_drewN | apply below_drew1) | exact Below.refl _ _)))).mono ?_); rintro e w' ⟨rfl, ⟨nd, rfl⟩⟩))
    go_quiet ((go_at_call 18; exact quiet_at (word_Bin.calls 100 _ _ _ _ _ _ BN.out)))
    go_wp2
    go_region
    go_wp2
    all_goals exact bodyPost_ret (v := .tuple #[.agg #[i64 (r0), i64 (r1), i64 (r2), i64 (vb), i64 (r4), i64 (r5), i64 (r6), i64 (r7), i64 (wrap64 (pc + size)), i64 (0), i64 (tr)], .agg #[i64 (0), i64 (0), i64 (0), i64 (0)]]) (by simp [results, Tryd.results9, go_sem]) rfl ⟨by simp [SO.out, Cpu.set], (by (repeat (first | (with_reducible first | apply below_alloc | apply pw_below_drewN | apply below_drew1) | exact Below.refl _ _)))⟩
  · have BN := Aside0.mk (show word_Bin.f 100 op r4 gb = some (vb, 0) from hbin)
    clear hbin
    have SO := Aside0.mk (startOk_bin ⟨r0, r1, r2, r3, r4, r5, r6, r7, pc, 0, tr⟩ op 4 (b : Int) n size ho ho')
    clear ha0 ha ho ho'
    go_enter Tryd.func9, Tryd.ntmps9
    go_wp2_with (first | (go_at_call 14; (with_reducible refine (size_go k _ _ w _ HG A (by (repeat (first | (with_reducible first | apply below_alloc | apply pw_below_drewN | apply below_drew1) | exact Below.refl _ _)))).mono ?_); rintro e w' ⟨rfl, ⟨nd, rfl⟩⟩))
    go_quiet ((go_at_call 18; exact quiet_at (word_Bin.calls 100 _ _ _ _ _ _ BN.out)))
    go_wp2
    go_region
    go_wp2
    all_goals exact bodyPost_ret (v := .tuple #[.agg #[i64 (r0), i64 (r1), i64 (r2), i64 (r3), i64 (vb), i64 (r5), i64 (r6), i64 (r7), i64 (wrap64 (pc + size)), i64 (0), i64 (tr)], .agg #[i64 (0), i64 (0), i64 (0), i64 (0)]]) (by simp [results, Tryd.results9, go_sem]) rfl ⟨by simp [SO.out, Cpu.set], (by (repeat (first | (with_reducible first | apply below_alloc | apply pw_below_drewN | apply below_drew1) | exact Below.refl _ _)))⟩
  · have BN := Aside0.mk (show word_Bin.f 100 op r5 gb = some (vb, 0) from hbin)
    clear hbin
    have SO := Aside0.mk (startOk_bin ⟨r0, r1, r2, r3, r4, r5, r6, r7, pc, 0, tr⟩ op 5 (b : Int) n size ho ho')
    clear ha0 ha ho ho'
    go_enter Tryd.func9, Tryd.ntmps9
    go_wp2_with (first | (go_at_call 14; (with_reducible refine (size_go k _ _ w _ HG A (by (repeat (first | (with_reducible first | apply below_alloc | apply pw_below_drewN | apply below_drew1) | exact Below.refl _ _)))).mono ?_); rintro e w' ⟨rfl, ⟨nd, rfl⟩⟩))
    go_quiet ((go_at_call 18; exact quiet_at (word_Bin.calls 100 _ _ _ _ _ _ BN.out)))
    go_wp2
    go_region
    go_wp2
    all_goals exact bodyPost_ret (v := .tuple #[.agg #[i64 (r0), i64 (r1), i64 (r2), i64 (r3), i64 (r4), i64 (vb), i64 (r6), i64 (r7), i64 (wrap64 (pc + size)), i64 (0), i64 (tr)], .agg #[i64 (0), i64 (0), i64 (0), i64 (0)]]) (by simp [results, Tryd.results9, go_sem]) rfl ⟨by simp [SO.out, Cpu.set], (by (repeat (first | (with_reducible first | apply below_alloc | apply pw_below_drewN | apply below_drew1) | exact Below.refl _ _)))⟩
  · have BN := Aside0.mk (show word_Bin.f 100 op r6 gb = some (vb, 0) from hbin)
    clear hbin
    have SO := Aside0.mk (startOk_bin ⟨r0, r1, r2, r3, r4, r5, r6, r7, pc, 0, tr⟩ op 6 (b : Int) n size ho ho')
    clear ha0 ha ho ho'
    go_enter Tryd.func9, Tryd.ntmps9
    go_wp2_with (first | (go_at_call 14; (with_reducible refine (size_go k _ _ w _ HG A (by (repeat (first | (with_reducible first | apply below_alloc | apply pw_below_drewN | apply below_drew1) | exact Below.refl _ _)))).mono ?_); rintro e w' ⟨rfl, ⟨nd, rfl⟩⟩))
    go_quiet ((go_at_call 18; exact quiet_at (word_Bin.calls 100 _ _ _ _ _ _ BN.out)))
    go_wp2
    go_region
    go_wp2
    all_goals exact bodyPost_ret (v := .tuple #[.agg #[i64 (r0), i64 (r1), i64 (r2), i64 (r3), i64 (r4), i64 (r5), i64 (vb), i64 (r7), i64 (wrap64 (pc + size)), i64 (0), i64 (tr)], .agg #[i64 (0), i64 (0), i64 (0), i64 (0)]]) (by simp [results, Tryd.results9, go_sem]) rfl ⟨by simp [SO.out, Cpu.set], (by (repeat (first | (with_reducible first | apply below_alloc | apply pw_below_drewN | apply below_drew1) | exact Below.refl _ _)))⟩
  · have BN := Aside0.mk (show word_Bin.f 100 op r7 gb = some (vb, 0) from hbin)
    clear hbin
    have SO := Aside0.mk (startOk_bin ⟨r0, r1, r2, r3, r4, r5, r6, r7, pc, 0, tr⟩ op 7 (b : Int) n size ho ho')
    clear ha0 ha ho ho'
    go_enter Tryd.func9, Tryd.ntmps9
    go_wp2_with (first | (go_at_call 14; (with_reducible refine (size_go k _ _ w _ HG A (by (repeat (first | (with_reducible first | apply below_alloc | apply pw_below_drewN | apply below_drew1) | exact Below.refl _ _)))).mono ?_); rintro e w' ⟨rfl, ⟨nd, rfl⟩⟩))
    go_quiet ((go_at_call 18; exact quiet_at (word_Bin.calls 100 _ _ _ _ _ _ BN.out)))
    go_wp2
    go_region
    go_wp2
    all_goals exact bodyPost_ret (v := .tuple #[.agg #[i64 (r0), i64 (r1), i64 (r2), i64 (r3), i64 (r4), i64 (r5), i64 (r6), i64 (vb), i64 (wrap64 (pc + size)), i64 (0), i64 (tr)], .agg #[i64 (0), i64 (0), i64 (0), i64 (0)]]) (by simp [results, Tryd.results9, go_sem]) rfl ⟨by simp [SO.out, Cpu.set], (by (repeat (first | (with_reducible first | apply below_alloc | apply pw_below_drewN | apply below_drew1) | exact Below.refl _ _)))⟩

set_option maxRecDepth 100000 in
set_option maxHeartbeats 4000000 in
theorem start_err (c : Cpu) (op a b n size sz : Int) (k : Nat) (w : World) (hG : Glob w) (hs : ins_Size.f k op = some sz) (hz : sz ≠ 0) (hst : c.st = 0) (ha0 : 0 ≤ a) (ha : a < 8) (hb0 : 0 ≤ b) (hb : b < 8) (ho : 3 ≤ op) (ho' : op ≤ 16) (vb eb : Int) (hbin : word_Bin.f 100 op (c.get a) (c.get b) = some (vb, eb)) (he : eb ≠ 0) :
    Calls Tryd.prog 9 #[c.v, ins op a b n, i64 size] w fun e w' => e = .returned (.tuple #[(startOk c op a b n size (vb, eb)).1.v, (startOk c op a b n size (vb, eb)).2.v]) ∧ Below w.heap.size w w' := by
  have HG := Aside0.mk hG
  have A := Aside0.mk hs
  clear hG hs
  have e2 : (sz == 0) = false := beq_eq_false_iff_ne.mpr hz
  have e3 : decide (mn a b < 0) = false := decide_eq_false (by unfold mn; split <;> omega)
  have e4 : decide (mx a b ≥ 8) = false := decide_eq_false (by unfold mx; split <;> omega)
  clear hz
  obtain ⟨r0, r1, r2, r3, r4, r5, r6, r7, pc, st, tr⟩ := c
  subst hst
  obtain ⟨a, rfl⟩ := Int.eq_ofNat_of_zero_le ha0
  have ha' : a < 8 := by omega
  have haI : (a : Int) < 8 := by omega
  have haJ : (0 : Int) ≤ (a : Int) := by omega
  have hA := at8 r0 r1 r2 r3 r4 r5 r6 r7 pc 0 tr a ha'
  generalize hga : (⟨r0, r1, r2, r3, r4, r5, r6, r7, pc, 0, tr⟩ : Cpu).get a = ga at hA hbin
  obtain ⟨b, rfl⟩ := Int.eq_ofNat_of_zero_le hb0
  have hb' : b < 8 := by omega
  have hbI : (b : Int) < 8 := by omega
  have hbJ : (0 : Int) ≤ (b : Int) := by omega
  have hB := at8 r0 r1 r2 r3 r4 r5 r6 r7 pc 0 tr b hb'
  generalize hgb : (⟨r0, r1, r2, r3, r4, r5, r6, r7, pc, 0, tr⟩ : Cpu).get b = gb at hB hbin
  have o1 : (op == 1) = false := by rw [beq_eq_false_iff_ne]; omega
  have o19 : (op == 19) = false := by rw [beq_eq_false_iff_ne]; omega
  have o2 : (op == 2) = false := by rw [beq_eq_false_iff_ne]; omega
  have o17 : (op == 17) = false := by rw [beq_eq_false_iff_ne]; omega
  have o18 : (op == 18) = false := by rw [beq_eq_false_iff_ne]; omega
  have o28 : (op == 28) = false := by rw [beq_eq_false_iff_ne]; omega
  have o29 : (op == 29) = false := by rw [beq_eq_false_iff_ne]; omega
  have o20 : (op == 20) = false := by rw [beq_eq_false_iff_ne]; omega
  have o25 : (op == 25) = false := by rw [beq_eq_false_iff_ne]; omega
  have o21 : (op == 21) = false := by rw [beq_eq_false_iff_ne]; omega
  have o26 : (op == 26) = false := by rw [beq_eq_false_iff_ne]; omega
  have o22 : (op == 22) = false := by rw [beq_eq_false_iff_ne]; omega
  have o27 : (op == 27) = false := by rw [beq_eq_false_iff_ne]; omega
  have o23 : (op == 23) = false := by rw [beq_eq_false_iff_ne]; omega
  have o24 : (op == 24) = false := by rw [beq_eq_false_iff_ne]; omega
  have o30 : (op == 30) = false := by rw [beq_eq_false_iff_ne]; omega
  have o31 : (op == 31) = false := by rw [beq_eq_false_iff_ne]; omega
  have o32 : (op == 32) = false := by rw [beq_eq_false_iff_ne]; omega
  have o33 : (op == 33) = false := by rw [beq_eq_false_iff_ne]; omega
  have BN := Aside0.mk hbin
  clear hbin
  have SO := Aside0.mk (startOk_bin ⟨r0, r1, r2, r3, r4, r5, r6, r7, pc, 0, tr⟩ op (a : Int) (b : Int) n size ho ho')
  have e7 : (eb != 0) = true := bne_iff_ne.mpr he
  have HE := Aside0.mk he
  clear ha0 ha hb0 hb ho ho' he
  go_enter Tryd.func9, Tryd.ntmps9
  go_wp2_with (first | (go_at_call 14; (with_reducible refine (size_go k _ _ w _ HG A (by (repeat (first | (with_reducible first | apply below_alloc | apply pw_below_drewN | apply below_drew1) | exact Below.refl _ _)))).mono ?_); rintro e w' ⟨rfl, ⟨nd, rfl⟩⟩))
  go_quiet ((go_at_call 18; exact quiet_at (word_Bin.calls 100 _ _ _ _ _ _ BN.out)))
  go_wp2_with (first | (go_at_call 17; (with_reducible refine (trap_c _ _ _ _ _ _ _ _ _ _ _ _ _).mono ?_); rintro e w' ⟨rfl, rfl⟩))
  all_goals exact bodyPost_ret (v := .tuple #[.agg #[i64 (r0), i64 (r1), i64 (r2), i64 (r3), i64 (r4), i64 (r5), i64 (r6), i64 (r7), i64 (pc), i64 (2), i64 (1)], .agg #[i64 (0), i64 (0), i64 (0), i64 (0)]]) (by simp [results, Tryd.results9, go_sem]) rfl ⟨by simp [SO.out, HE.out], (by (repeat (first | (with_reducible first | apply below_alloc | apply pw_below_drewN | apply below_drew1) | exact Below.refl _ _)))⟩
end Go.Proofs.YtjlfjkpbooholaaDoor.M
