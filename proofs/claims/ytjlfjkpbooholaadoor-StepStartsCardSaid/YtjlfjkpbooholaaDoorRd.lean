/-
  Layer 4: the document's Start at the instructions that Bin does. Conditions: the fields may be.
-/
import Derived.Test.YtjlfjkpbooholaaDoorK
import Derived.Test.YtjlfjkpbooholaaDoorSd
import Derived.Deep.RegionWith
import Derived.Deep.QuietTactic
import Derived.BigQuiet
import Derived.StillTailTactics
namespace Go.Proofs.YtjlfjkpbooholaaDoor.M
open Go.RowKit Go.Proofs.YtjlfjkpbooholaaDoorW.PrintWords Go.Proofs.YtjlfjkpbooholaaDoorW.PrintLast
set_option linter.unusedSimpArgs false
set_option linter.unusedVariables false
attribute [local go_sem] min_ints max_ints setCell_drewN alloc_drewN
set_option maxRecDepth 100000 in
set_option maxHeartbeats 4000000 in
theorem rstart_bin (c : Cpu) (op a b n size sz : Int) (k : Nat) (w : World) (hs : cotterref03_Size.f k op = some sz) (hz : sz ≠ 0) (hst : c.st = 0) (ha0 : 0 ≤ a) (ha : a < 8) (hb0 : 0 ≤ b) (hb : b < 8) (ho : 3 ≤ op) (ho' : op ≤ 16) (vb eb : Int) (hbin : cotterref01_Bin.f 100 op (c.get a) (c.get b) = some (vb, 0)) :
    Calls Tryd.prog 10 #[c.v, ins op a b n, i64 size] w fun e w' => e = .returned (.tuple #[(startOk c op a b n size (vb, 0)).1.v, (startOk c op a b n size (vb, 0)).2.v]) ∧ Below w.heap.size w w' := by
  have A := Aside0.mk hs
  clear hs
  have e2 : (sz == 0) = false := beq_eq_false_iff_ne.mpr hz
  clear hz
  obtain ⟨r0, r1, r2, r3, r4, r5, r6, r7, pc, st, tr⟩ := c
  subst hst
  obtain ⟨b, rfl⟩ := Int.eq_ofNat_of_zero_le hb0
  have hb' : b < 8 := by omega
  have hbK : b < 11 := by omega
  have hbI : (b : Int) < 8 := by omega
  have hbJ : (0 : Int) ≤ (b : Int) := by omega
  have hB := at11 r0 r1 r2 r3 r4 r5 r6 r7 pc pc 0 tr b hb'
  generalize hgb : (⟨r0, r1, r2, r3, r4, r5, r6, r7, pc, 0, tr⟩ : Cpu).get b = gb at hB hbin
  have fb0 : decide ((b : Int) < 0) = false := decide_eq_false (by omega)
  have fb1 : decide ((b : Int) > 7) = false := decide_eq_false (by omega)
  have o1 : (op == 1) = false := by rw [beq_eq_false_iff_ne]; omega
  have o19 : (op == 19) = false := by rw [beq_eq_false_iff_ne]; omega
  have o2 : (op == 2) = false := by rw [beq_eq_false_iff_ne]; omega
  have o17 : (op == 17) = false := by rw [beq_eq_false_iff_ne]; omega
  have o18 : (op == 18) = false := by rw [beq_eq_false_iff_ne]; omega
  have o28 : (op == 28) = false := by rw [beq_eq_false_iff_ne]; omega
  have o29 : (op == 29) = false := by rw [beq_eq_false_iff_ne]; omega
  have o20 : (op == 20) = false := by rw [beq_eq_false_iff_ne]; omega
  have o25 : (op == 25) = false := by rw [beq_eq_false_iff_ne]; omega
  have o21 : (op == 21) = false := by rw [beq_eq_false_iff_ne]; omega
  have o26 : (op == 26) = false := by rw [beq_eq_false_iff_ne]; omega
  have o22 : (op == 22) = false := by rw [beq_eq_false_iff_ne]; omega
  have o27 : (op == 27) = false := by rw [beq_eq_false_iff_ne]; omega
  have o23 : (op == 23) = false := by rw [beq_eq_false_iff_ne]; omega
  have o24 : (op == 24) = false := by rw [beq_eq_false_iff_ne]; omega
  have o30 : (op == 30) = false := by rw [beq_eq_false_iff_ne]; omega
  have o31 : (op == 31) = false := by rw [beq_eq_false_iff_ne]; omega
  have o32 : (op == 32) = false := by rw [beq_eq_false_iff_ne]; omega
  have o33 : (op == 33) = false := by rw [beq_eq_false_iff_ne]; omega
  clear hb0 hb
  rcases eightI a ha0 ha with rfl | rfl | rfl | rfl | rfl | rfl | rfl | rfl
  · have BN := Aside0.mk (show cotterref01_Bin.f 100 op r0 gb = some (vb, 0) from hbin)
    clear hbin ha0 ha
    have SO := Aside0.mk (startOk_bin ⟨r0, r1, r2, r3, r4, r5, r6, r7, pc, 0, tr⟩ op 0 (b : Int) n size ho ho')
    clear ho ho'
    go_enter Tryd.func10, Tryd.ntmps10
    go_wp2_with (first | (go_at_call 19; (with_reducible refine (rsize_go k _ _ _ A).mono ?_); rintro e w' ⟨rfl, ⟨nd, rfl⟩⟩) | (go_at_call 21; (with_reducible refine (cotterref01_Bin.calls 100 _ _ _ _ _ _ BN.out).mono ?_); rintro e w' ⟨rfl, ⟨nd2, rfl⟩⟩))
    all_goals (try (go_region; go_wp2))
    all_goals exact bodyPost_ret (v := .tuple #[.agg #[i64 (vb), i64 (r1), i64 (r2), i64 (r3), i64 (r4), i64 (r5), i64 (r6), i64 (r7), i64 (wrap64 (pc + size)), i64 (0), i64 (tr)], .agg #[i64 (0), i64 (0), i64 (0), i64 (0)]]) (by simp [results, Tryd.results10, go_sem]) rfl ⟨by simp [SO.out, Cpu.set], (by (repeat (first | (with_reducible first | apply below_alloc | apply pw_below_drewN | apply below_drew1) | exact Below.refl _ _)))⟩
  · have BN := Aside0.mk (show cotterref01_Bin.f 100 op r1 gb = some (vb, 0) from hbin)
    clear hbin ha0 ha
    have SO := Aside0.mk (startOk_bin ⟨r0, r1, r2, r3, r4, r5, r6, r7, pc, 0, tr⟩ op 1 (b : Int) n size ho ho')
    clear ho ho'
    go_enter Tryd.func10, Tryd.ntmps10
    go_wp2_with (first | (go_at_call 19; (with_reducible refine (rsize_go k _ _ _ A).mono ?_); rintro e w' ⟨rfl, ⟨nd, rfl⟩⟩) | (go_at_call 21; (with_reducible refine (cotterref01_Bin.calls 100 _ _ _ _ _ _ BN.out).mono ?_); rintro e w' ⟨rfl, ⟨nd2, rfl⟩⟩))
    all_goals (try (go_region; go_wp2))
    all_goals exact bodyPost_ret (v := .tuple #[.agg #[i64 (r0), i64 (vb), i64 (r2), i64 (r3), i64 (r4), i64 (r5), i64 (r6), i64 (r7), i64 (wrap64 (pc + size)), i64 (0), i64 (tr)], .agg #[i64 (0), i64 (0), i64 (0), i64 (0)]]) (by simp [results, Tryd.results10, go_sem]) rfl ⟨by simp [SO.out, Cpu.set], (by (repeat (first | (with_reducible first | apply below_alloc | apply pw_below_drewN | apply below_drew1) | exact Below.refl _ _)))⟩
  · have BN := Aside0.mk (show cotterref01_Bin.f 100 op r2 gb = some (vb, 0) from hbin)
    clear hbin ha0 ha
    have SO := Aside0.mk (startOk_bin ⟨r0, r1, r2, r3, r4, r5, r6, r7, pc, 0, tr⟩ op 2 (b : Int) n size ho ho')
    clear ho ho'
    go_enter Tryd.func10, Tryd.ntmps10
    go_wp2_with (first | (go_at_call 19; (with_reducible refine (rsize_go k _ _ _ A).mono ?_); rintro e w' ⟨rfl, ⟨nd, rfl⟩⟩) | (go_at_call 21; (with_reducible refine (cotterref01_Bin.calls 100 _ _ _ _ _ _ BN.out).mono ?_); rintro e w' ⟨rfl, ⟨nd2, rfl⟩⟩))
    all_goals (try (go_region; go_wp2))
    all_goals exact bodyPost_ret (v := .tuple #[.agg #[i64 (r0), i64 (r1), i64 (vb), i64 (r3), i64 (r4), i64 (r5), i64 (r6), i64 (r7), i64 (wrap64 (pc + size)), i64 (0), i64 (tr)], .agg #[i64 (0), i64 (0), i64 (0), i64 (0)]]) (by simp [results, Tryd.results10, go_sem]) rfl ⟨by simp [SO.out, Cpu.set], (by (repeat (first | (with_reducible first | apply below_alloc | apply pw_below_drewN | apply below_drew1) | exact Below.refl _ _)))⟩
  · have BN := Aside0.mk (show cotterref01_Bin.f 100 op r3 gb = some (vb, 0) from hbin)
    clear hbin ha0 ha
    have SO := Aside0.mk (startOk_bin ⟨r0, r1, r2, r3, r4, r5, r6, r7, pc, 0, tr⟩ op 3 (b : Int) n size ho ho')
    clear ho ho'
    go_enter Tryd.func10, Tryd.ntmps10
    go_wp2_with (first | (go_at_call 19; (with_reducible refine (rsize_go k _ _ _ A).mono ?_); rintro e w' ⟨rfl, ⟨nd, rfl⟩⟩) | (go_at_call 21; (with_reducible refine (cotterref01_Bin.calls 100 _ _ _ _ _ _ BN.out).mono ?_); rintro e w' ⟨rfl, ⟨nd2, rfl⟩⟩))
    all_goals (try (go_region; go_wp2))
    all_goals exact bodyPost_ret (v := .tuple #[.agg #[i64 (r0), i64 (r1), i64 (r2), i64 (vb), i64 (r4), i64 (r5), i64 (r6), i64 (r7), i64 (wrap64 (pc + size)), i64 (0), i64 (tr)], .agg #[i64 (0), i64 (0), i64 (0), i64 (0)]]) (by simp [results, Tryd.results10, go_sem]) rfl ⟨by simp [SO.out, Cpu.set], (by (repeat (first | (with_reducible first | apply below_alloc | apply pw_below_drewN | apply below_drew1) | exact Below.refl _ _)))⟩
  · have BN := Aside0.mk (show cotterref01_Bin.f 100 op r4 gb = some (vb, 0) from hbin)
    clear hbin ha0 ha
    have SO := Aside0.mk (startOk_bin ⟨r0, r1, r2, r3, r4, r5, r6, r7, pc, 0, tr⟩ op 4 (b : Int) n size ho ho')
    clear ho ho'
    go_enter Tryd.func10, Tryd.ntmps10
    go_wp2_with (first | (go_at_call 19; (with_reducible refine (rsize_go k _ _ _ A).mono ?_); rintro e w' ⟨rfl, ⟨nd, rfl⟩⟩) | (go_at_call 21; (with_reducible refine (cotterref01_Bin.calls 100 _ _ _ _ _ _ BN.out).mono ?_); rintro e w' ⟨rfl, ⟨nd2, rfl⟩⟩))
    all_goals (try (go_region; go_wp2))
    all_goals exact bodyPost_ret (v := .tuple #[.agg #[i64 (r0), i64 (r1), i64 (r2), i64 (r3), i64 (vb), i64 (r5), i64 (r6), i64 (r7), i64 (wrap64 (pc + size)), i64 (0), i64 (tr)], .agg #[i64 (0), i64 (0), i64 (0), i64 (0)]]) (by simp [results, Tryd.results10, go_sem]) rfl ⟨by simp [SO.out, Cpu.set], (by (repeat (first | (with_reducible first | apply below_alloc | apply pw_below_drewN | apply below_drew1) | exact Below.refl _ _)))⟩
  · have BN := Aside0.mk (show cotterref01_Bin.f 100 op r5 gb = some (vb, 0) from hbin)
    clear hbin ha0 ha
    have SO := Aside0.mk (startOk_bin ⟨r0, r1, r2, r3, r4, r5, r6, r7, pc, 0, tr⟩ op 5 (b : Int) n size ho ho')
    clear ho ho'
    go_enter Tryd.func10, Tryd.ntmps10
    go_wp2_with (first | (go_at_call 19; (with_reducible refine (rsize_go k _ _ _ A).mono ?_); rintro e w' ⟨rfl, ⟨nd, rfl⟩⟩) | (go_at_call 21; (with_reducible refine (cotterref01_Bin.calls 100 _ _ _ _ _ _ BN.out).mono ?_); rintro e w' ⟨rfl, ⟨nd2, rfl⟩⟩))
    all_goals (try (go_region; go_wp2))
    all_goals exact bodyPost_ret (v := .tuple #[.agg #[i64 (r0), i64 (r1), i64 (r2), i64 (r3), i64 (r4), i64 (vb), i64 (r6), i64 (r7), i64 (wrap64 (pc + size)), i64 (0), i64 (tr)], .agg #[i64 (0), i64 (0), i64 (0), i64 (0)]]) (by simp [results, Tryd.results10, go_sem]) rfl ⟨by simp [SO.out, Cpu.set], (by (repeat (first | (with_reducible first | apply below_alloc | apply pw_below_drewN | apply below_drew1) | exact Below.refl _ _)))⟩
  · have BN := Aside0.mk (show cotterref01_Bin.f 100 op r6 gb = some (vb, 0) from hbin)
    clear hbin ha0 ha
    have SO := Aside0.mk (startOk_bin ⟨r0, r1, r2, r3, r4, r5, r6, r7, pc, 0, tr⟩ op 6 (b : Int) n size ho ho')
    clear ho ho'
    go_enter Tryd.func10, Tryd.ntmps10
    go_wp2_with (first | (go_at_call 19; (with_reducible refine (rsize_go k _ _ _ A).mono ?_); rintro e w' ⟨rfl, ⟨nd, rfl⟩⟩) | (go_at_call 21; (with_reducible refine (cotterref01_Bin.calls 100 _ _ _ _ _ _ BN.out).mono ?_); rintro e w' ⟨rfl, ⟨nd2, rfl⟩⟩))
    all_goals (try (go_region; go_wp2))
    all_goals exact bodyPost_ret (v := .tuple #[.agg #[i64 (r0), i64 (r1), i64 (r2), i64 (r3), i64 (r4), i64 (r5), i64 (vb), i64 (r7), i64 (wrap64 (pc + size)), i64 (0), i64 (tr)], .agg #[i64 (0), i64 (0), i64 (0), i64 (0)]]) (by simp [results, Tryd.results10, go_sem]) rfl ⟨by simp [SO.out, Cpu.set], (by (repeat (first | (with_reducible first | apply below_alloc | apply pw_below_drewN | apply below_drew1) | exact Below.refl _ _)))⟩
  · have BN := Aside0.mk (show cotterref01_Bin.f 100 op r7 gb = some (vb, 0) from hbin)
    clear hbin ha0 ha
    have SO := Aside0.mk (startOk_bin ⟨r0, r1, r2, r3, r4, r5, r6, r7, pc, 0, tr⟩ op 7 (b : Int) n size ho ho')
    clear ho ho'
    go_enter Tryd.func10, Tryd.ntmps10
    go_wp2_with (first | (go_at_call 19; (with_reducible refine (rsize_go k _ _ _ A).mono ?_); rintro e w' ⟨rfl, ⟨nd, rfl⟩⟩) | (go_at_call 21; (with_reducible refine (cotterref01_Bin.calls 100 _ _ _ _ _ _ BN.out).mono ?_); rintro e w' ⟨rfl, ⟨nd2, rfl⟩⟩))
    all_goals (try (go_region; go_wp2))
    all_goals exact bodyPost_ret (v := .tuple #[.agg #[i64 (r0), i64 (r1), i64 (r2), i64 (r3), i64 (r4), i64 (r5), i64 (r6), i64 (vb), i64 (wrap64 (pc + size)), i64 (0), i64 (tr)], .agg #[i64 (0), i64 (0), i64 (0), i64 (0)]]) (by simp [results, Tryd.results10, go_sem]) rfl ⟨by simp [SO.out, Cpu.set], (by (repeat (first | (with_reducible first | apply below_alloc | apply pw_below_drewN | apply below_drew1) | exact Below.refl _ _)))⟩

set_option maxRecDepth 100000 in
set_option maxHeartbeats 4000000 in
theorem rstart_err (c : Cpu) (op a b n size sz : Int) (k : Nat) (w : World) (hs : cotterref03_Size.f k op = some sz) (hz : sz ≠ 0) (hst : c.st = 0) (ha0 : 0 ≤ a) (ha : a < 8) (hb0 : 0 ≤ b) (hb : b < 8) (ho : 3 ≤ op) (ho' : op ≤ 16) (vb eb : Int) (hbin : cotterref01_Bin.f 100 op (c.get a) (c.get b) = some (vb, eb)) (he : eb ≠ 0) :
    Calls Tryd.prog 10 #[c.v, ins op a b n, i64 size] w fun e w' => e = .returned (.tuple #[(startOk c op a b n size (vb, eb)).1.v, (startOk c op a b n size (vb, eb)).2.v]) ∧ Below w.heap.size w w' := by
  have A := Aside0.mk hs
  clear hs
  have e2 : (sz == 0) = false := beq_eq_false_iff_ne.mpr hz
  clear hz
  obtain ⟨r0, r1, r2, r3, r4, r5, r6, r7, pc, st, tr⟩ := c
  subst hst
  obtain ⟨a, rfl⟩ := Int.eq_ofNat_of_zero_le ha0
  have ha' : a < 8 := by omega
  have haK : a < 11 := by omega
  have haI : (a : Int) < 8 := by omega
  have haJ : (0 : Int) ≤ (a : Int) := by omega
  have hA := at11 r0 r1 r2 r3 r4 r5 r6 r7 pc pc 0 tr a ha'
  generalize hga : (⟨r0, r1, r2, r3, r4, r5, r6, r7, pc, 0, tr⟩ : Cpu).get a = ga at hA hbin
  obtain ⟨b, rfl⟩ := Int.eq_ofNat_of_zero_le hb0
  have hb' : b < 8 := by omega
  have hbK : b < 11 := by omega
  have hbI : (b : Int) < 8 := by omega
  have hbJ : (0 : Int) ≤ (b : Int) := by omega
  have hB := at11 r0 r1 r2 r3 r4 r5 r6 r7 pc pc 0 tr b hb'
  generalize hgb : (⟨r0, r1, r2, r3, r4, r5, r6, r7, pc, 0, tr⟩ : Cpu).get b = gb at hB hbin
  have fa0 : decide ((a : Int) < 0) = false := decide_eq_false (by omega)
  have fa1 : decide ((a : Int) > 7) = false := decide_eq_false (by omega)
  have fb0 : decide ((b : Int) < 0) = false := decide_eq_false (by omega)
  have fb1 : decide ((b : Int) > 7) = false := decide_eq_false (by omega)
  have o1 : (op == 1) = false := by rw [beq_eq_false_iff_ne]; omega
  have o19 : (op == 19) = false := by rw [beq_eq_false_iff_ne]; omega
  have o2 : (op == 2) = false := by rw [beq_eq_false_iff_ne]; omega
  have o17 : (op == 17) = false := by rw [beq_eq_false_iff_ne]; omega
  have o18 : (op == 18) = false := by rw [beq_eq_false_iff_ne]; omega
  have o28 : (op == 28) = false := by rw [beq_eq_false_iff_ne]; omega
  have o29 : (op == 29) = false := by rw [beq_eq_false_iff_ne]; omega
  have o20 : (op == 20) = false := by rw [beq_eq_false_iff_ne]; omega
  have o25 : (op == 25) = false := by rw [beq_eq_false_iff_ne]; omega
  have o21 : (op == 21) = false := by rw [beq_eq_false_iff_ne]; omega
  have o26 : (op == 26) = false := by rw [beq_eq_false_iff_ne]; omega
  have o22 : (op == 22) = false := by rw [beq_eq_false_iff_ne]; omega
  have o27 : (op == 27) = false := by rw [beq_eq_false_iff_ne]; omega
  have o23 : (op == 23) = false := by rw [beq_eq_false_iff_ne]; omega
  have o24 : (op == 24) = false := by rw [beq_eq_false_iff_ne]; omega
  have o30 : (op == 30) = false := by rw [beq_eq_false_iff_ne]; omega
  have o31 : (op == 31) = false := by rw [beq_eq_false_iff_ne]; omega
  have o32 : (op == 32) = false := by rw [beq_eq_false_iff_ne]; omega
  have o33 : (op == 33) = false := by rw [beq_eq_false_iff_ne]; omega
  have BN := Aside0.mk hbin
  clear hbin
  have SO := Aside0.mk (startOk_bin ⟨r0, r1, r2, r3, r4, r5, r6, r7, pc, 0, tr⟩ op (a : Int) (b : Int) n size ho ho')
  have e7 : (eb != 0) = true := bne_iff_ne.mpr he
  have HE := Aside0.mk he
  clear ha0 ha hb0 hb ho ho' he
  go_enter Tryd.func10, Tryd.ntmps10
  go_wp2_with (first | (go_at_call 19; (with_reducible refine (rsize_go k _ _ _ A).mono ?_); rintro e w' ⟨rfl, ⟨nd, rfl⟩⟩) | (go_at_call 21; (with_reducible refine (cotterref01_Bin.calls 100 _ _ _ _ _ _ BN.out).mono ?_); rintro e w' ⟨rfl, ⟨nd2, rfl⟩⟩) | (go_at_call 20; (with_reducible refine (rtrap_c _ _ _ _ _ _ _ _ _ _ _ _ _).mono ?_); rintro e w' ⟨rfl, rfl⟩))
  all_goals (try (go_region; go_wp2))
  all_goals exact bodyPost_ret (v := .tuple #[.agg #[i64 (r0), i64 (r1), i64 (r2), i64 (r3), i64 (r4), i64 (r5), i64 (r6), i64 (r7), i64 (pc), i64 (2), i64 (1)], .agg #[i64 (0), i64 (0), i64 (0), i64 (0)]]) (by simp [results, Tryd.results10, go_sem]) rfl ⟨by simp [SO.out, HE.out], (by (repeat (first | (with_reducible first | apply below_alloc | apply pw_below_drewN | apply below_drew1) | exact Below.refl _ _)))⟩
end Go.Proofs.YtjlfjkpbooholaaDoor.M
