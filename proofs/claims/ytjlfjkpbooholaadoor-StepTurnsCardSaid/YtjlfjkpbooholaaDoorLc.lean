/-
  Layer 4: StepTurns, the walk: the law answers true. Condition: the registers are of 64 bits.
-/
import Derived.Test.YtjlfjkpbooholaaDoorLive
import Derived.Test.YtjlfjkpbooholaaDoorPl4
import Derived.Test.YtjlfjkpbooholaaDoorEq4
import Derived.Deep.RegionWith
import Derived.Deep.QuietTactic
import Derived.BigQuiet
import Derived.StillTailTactics
namespace Go.Proofs.YtjlfjkpbooholaaDoor.M
open Go.RowKit Go.Proofs.YtjlfjkpbooholaaDoorW.PrintWords Go.Proofs.YtjlfjkpbooholaaDoorW.PrintLast
set_option linter.unusedSimpArgs false
set_option linter.unusedVariables false
attribute [local go_sem] min_ints max_ints setCell_drewN alloc_drewN
attribute [local go_sem] eq_regs
set_option maxRecDepth 100000 in
set_option maxHeartbeats 8000000 in
theorem stepTurns_c (c : Cpu) (ok : c.Ok) (op a b n size : Int) (w : World) (hG : Glob w) : Calls Tryd.prog 5 #[c.v, ins op a b n, i64 size] w fun e w' => e = .returned (.bool true) ∧ Below w.heap.size w w' := by
  have s1 := fun W h => start_c c ok op a b n size W h
  have law := turns_law c op a b n size
  by_cases g : c.st = 0
  case neg =>
    rw [startF_no (.inl g)] at s1
    clear law ok
    obtain ⟨r0, r1, r2, r3, r4, r5, r6, r7, pc, st, tr⟩ := c
    have S1 := fun W => Aside0.mk (s1 W)
    have e1 : (st != 0) = true := bne_iff_ne.mpr g
    have HG := Aside0.mk hG
    clear hG s1 g
    go_enter Tryd.func5, Tryd.ntmps5
    have T1 := Aside0.mk trivial; have T2 := Aside0.mk trivial; go_wp2_with (first | (go_at_call 9; clear T1; (with_reducible refine ((S1 _).out (HG.out.below (by (repeat (first | (with_reducible first |  apply below_alloc | apply pw_below_drewN | apply below_drew1) | exact Below.refl _ _))) rfl)).mono ?_); rintro e w1 ⟨rfl, hb1⟩; have HB1 := Aside0.mk (below_over (by (repeat (first | (with_reducible first |  apply below_alloc | apply pw_below_drewN | apply below_drew1) | exact Below.refl _ _))) hb1); have hz1_0 : w.heap.size < w1.heap.size := (by have h_ := hb1.size; simp at h_; omega); have hz1_1 : w.heap.size + 1 < w1.heap.size := (by have h_ := hb1.size; simp at h_; omega); obtain ⟨hc1, hf1⟩ := bcell hb1; clear hb1) | (go_at_call 11; clear T2; (with_reducible refine (live_c _ (HG.out.below (by (repeat (first | (with_reducible first | exact HB1.out |  apply below_alloc | apply pw_below_drewN | apply below_drew1) | exact Below.refl _ _))) rfl)).mono ?_); rintro e w2 ⟨rfl, hb2⟩; have HB2 := Aside0.mk (below_over (by (repeat (first | (with_reducible first | exact HB1.out |  apply below_alloc | apply pw_below_drewN | apply below_drew1) | exact Below.refl _ _))) hb2); clear hb2))
    all_goals go_ret
    all_goals exact ⟨rfl, (by (repeat (first | (with_reducible first | exact HB2.out | exact HB1.out |  apply below_alloc | apply pw_below_drewN | apply below_drew1) | exact Below.refl _ _)))⟩
  obtain ⟨law, law7⟩ := law g
  generalize startF c op a b n size = p at s1 law law7
  obtain ⟨⟨d0, d1, d2, d3, d4, d5, d6, d7, dp, ds, dt⟩, ⟨q0, q1, q2, q3⟩⟩ := p
  obtain ⟨r0, r1, r2, r3, r4, r5, r6, r7, pc, st, tr⟩ := c
  have HG := Aside0.mk hG
  have S1 := fun W => Aside0.mk (s1 W)
  subst g
  clear hG s1 ok
  have l0 : d0 ≠ r0 → a = 0 := fun h => Decidable.byContradiction fun h' => h (law 0 (by omega) (by omega) (fun e => h' e.symm))
  have l1 : d1 ≠ r1 → a = 1 := fun h => Decidable.byContradiction fun h' => h (law 1 (by omega) (by omega) (fun e => h' e.symm))
  have l2 : d2 ≠ r2 → a = 2 := fun h => Decidable.byContradiction fun h' => h (law 2 (by omega) (by omega) (fun e => h' e.symm))
  have l3 : d3 ≠ r3 → a = 3 := fun h => Decidable.byContradiction fun h' => h (law 3 (by omega) (by omega) (fun e => h' e.symm))
  have l4 : d4 ≠ r4 → a = 4 := fun h => Decidable.byContradiction fun h' => h (law 4 (by omega) (by omega) (fun e => h' e.symm))
  have l5 : d5 ≠ r5 → a = 5 := fun h => Decidable.byContradiction fun h' => h (law 5 (by omega) (by omega) (fun e => h' e.symm))
  have l6 : d6 ≠ r6 → a = 6 := fun h => Decidable.byContradiction fun h' => h (law 6 (by omega) (by omega) (fun e => h' e.symm))
  clear law
  have L0 := Aside0.mk l0
  have L1 := Aside0.mk l1
  have L2 := Aside0.mk l2
  have L3 := Aside0.mk l3
  have L4 := Aside0.mk l4
  have L5 := Aside0.mk l5
  have L6 := Aside0.mk l6
  clear l0 l1 l2 l3 l4 l5 l6
  have L7 := Aside0.mk law7
  clear law7
  go_enter Tryd.func5, Tryd.ntmps5
  have T1 := Aside0.mk trivial; go_wp2_with (first | (go_at_call 9; clear T1; (with_reducible refine ((S1 _).out (HG.out.below (by (repeat (first | (with_reducible first |  apply below_alloc | apply pw_below_drewN | apply below_drew1) | exact Below.refl _ _))) rfl)).mono ?_); rintro e w1 ⟨rfl, hb1⟩; have HB1 := Aside0.mk (below_over (by (repeat (first | (with_reducible first |  apply below_alloc | apply pw_below_drewN | apply below_drew1) | exact Below.refl _ _))) hb1); have hz1_0 : w.heap.size < w1.heap.size := (by have h_ := hb1.size; simp at h_; omega); have hz1_1 : w.heap.size + 1 < w1.heap.size := (by have h_ := hb1.size; simp at h_; omega); obtain ⟨hc1, hf1⟩ := bcell hb1; clear hb1))
  go_loopw [9] (fun v wr => ∃ k m : Nat, k ≤ 7 ∧ v = .int .i64 k ∧ wr = World.drewN ((w1.alloc (.cells #[i64 d0, i64 d1, i64 d2, i64 d3, i64 d4, i64 d5, i64 d6, i64 d7, i64 dp, i64 ds, i64 dt] 24)).alloc (.cells #[i64 q0, i64 q1, i64 q2, i64 q3] 28)) m) (fun v _ => 7 - (intOf v).toNat)
  case atStart => exact ⟨0, 0, by omega, rfl, rfl⟩
  case round =>
    obtain ⟨k, m, hk, rfl, rfl⟩ := hrel
    by_cases hlt : k < 7
    · have h7 : k = 0 ∨ k = 1 ∨ k = 2 ∨ k = 3 ∨ k = 4 ∨ k = 5 ∨ k = 6 := by omega
      clear hk hlt
      rcases h7 with rfl | rfl | rfl | rfl | rfl | rfl | rfl
      · by_cases e : d0 = r0
        case neg =>
          have e1 : (d0 != r0) = true := bne_iff_ne.mpr e
          obtain rfl := L0.out e
          clear e
          go_wp2
          go_quiet (fail)
          go_wp2
          go_roundw
          case rel => exact ⟨1, _, by omega, rfl, rfl⟩
          case measure => simp [intOf]
        case pos =>
          have e1 : (d0 != r0) = false := bne_eq_false_iff_eq.mpr e
          clear e
          go_wp2
          go_quiet (fail)
          go_wp2
          go_roundw
          case rel => exact ⟨1, _, by omega, rfl, rfl⟩
          case measure => simp [intOf]
      · by_cases e : d1 = r1
        case neg =>
          have e1 : (d1 != r1) = true := bne_iff_ne.mpr e
          obtain rfl := L1.out e
          clear e
          go_wp2
          go_quiet (fail)
          go_wp2
          go_roundw
          case rel => exact ⟨2, _, by omega, rfl, rfl⟩
          case measure => simp [intOf]
        case pos =>
          have e1 : (d1 != r1) = false := bne_eq_false_iff_eq.mpr e
          clear e
          go_wp2
          go_quiet (fail)
          go_wp2
          go_roundw
          case rel => exact ⟨2, _, by omega, rfl, rfl⟩
          case measure => simp [intOf]
      · by_cases e : d2 = r2
        case neg =>
          have e1 : (d2 != r2) = true := bne_iff_ne.mpr e
          obtain rfl := L2.out e
          clear e
          go_wp2
          go_quiet (fail)
          go_wp2
          go_roundw
          case rel => exact ⟨3, _, by omega, rfl, rfl⟩
          case measure => simp [intOf]
        case pos =>
          have e1 : (d2 != r2) = false := bne_eq_false_iff_eq.mpr e
          clear e
          go_wp2
          go_quiet (fail)
          go_wp2
          go_roundw
          case rel => exact ⟨3, _, by omega, rfl, rfl⟩
          case measure => simp [intOf]
      · by_cases e : d3 = r3
        case neg =>
          have e1 : (d3 != r3) = true := bne_iff_ne.mpr e
          obtain rfl := L3.out e
          clear e
          go_wp2
          go_quiet (fail)
          go_wp2
          go_roundw
          case rel => exact ⟨4, _, by omega, rfl, rfl⟩
          case measure => simp [intOf]
        case pos =>
          have e1 : (d3 != r3) = false := bne_eq_false_iff_eq.mpr e
          clear e
          go_wp2
          go_quiet (fail)
          go_wp2
          go_roundw
          case rel => exact ⟨4, _, by omega, rfl, rfl⟩
          case measure => simp [intOf]
      · by_cases e : d4 = r4
        case neg =>
          have e1 : (d4 != r4) = true := bne_iff_ne.mpr e
          obtain rfl := L4.out e
          clear e
          go_wp2
          go_quiet (fail)
          go_wp2
          go_roundw
          case rel => exact ⟨5, _, by omega, rfl, rfl⟩
          case measure => simp [intOf]
        case pos =>
          have e1 : (d4 != r4) = false := bne_eq_false_iff_eq.mpr e
          clear e
          go_wp2
          go_quiet (fail)
          go_wp2
          go_roundw
          case rel => exact ⟨5, _, by omega, rfl, rfl⟩
          case measure => simp [intOf]
      · by_cases e : d5 = r5
        case neg =>
          have e1 : (d5 != r5) = true := bne_iff_ne.mpr e
          obtain rfl := L5.out e
          clear e
          go_wp2
          go_quiet (fail)
          go_wp2
          go_roundw
          case rel => exact ⟨6, _, by omega, rfl, rfl⟩
          case measure => simp [intOf]
        case pos =>
          have e1 : (d5 != r5) = false := bne_eq_false_iff_eq.mpr e
          clear e
          go_wp2
          go_quiet (fail)
          go_wp2
          go_roundw
          case rel => exact ⟨6, _, by omega, rfl, rfl⟩
          case measure => simp [intOf]
      · by_cases e : d6 = r6
        case neg =>
          have e1 : (d6 != r6) = true := bne_iff_ne.mpr e
          obtain rfl := L6.out e
          clear e
          go_wp2
          go_quiet (fail)
          go_wp2
          go_roundw
          case rel => exact ⟨7, _, by omega, rfl, rfl⟩
          case measure => simp [intOf]
        case pos =>
          have e1 : (d6 != r6) = false := bne_eq_false_iff_eq.mpr e
          clear e
          go_wp2
          go_quiet (fail)
          go_wp2
          go_roundw
          case rel => exact ⟨7, _, by omega, rfl, rfl⟩
          case measure => simp [intOf]
    · obtain rfl : k = 7 := by omega
      clear hk hlt
      by_cases e7 : d7 = r7
      · have e1 : (d7 == r7) = true := beq_iff_eq.mpr e7
        clear e7 L7
        go_wp2_with (first | (go_at_call 11; (with_reducible refine (live_c _ (HG.out.below (by (repeat (first | (with_reducible first | exact HB1.out |  apply below_alloc | apply pw_below_drewN | apply below_drew1) | exact Below.refl _ _))) rfl)).mono ?_); rintro e w2 ⟨rfl, hb2⟩; have HB2 := Aside0.mk (below_over (by (repeat (first | (with_reducible first | exact HB1.out |  apply below_alloc | apply pw_below_drewN | apply below_drew1) | exact Below.refl _ _))) hb2); clear hb2))
        all_goals go_ret
        all_goals exact ⟨rfl, (by (repeat (first | (with_reducible first | exact HB2.out | exact HB1.out |  apply below_alloc | apply pw_below_drewN | apply below_drew1) | exact Below.refl _ _)))⟩
      have f7 : (d7 == r7) = false := beq_eq_false_iff_ne.mpr e7
      by_cases ea : a = 7
      · have e1 : (a == 7) = true := beq_iff_eq.mpr ea
        clear e7 ea L7
        go_wp2_with (first | (go_at_call 11; (with_reducible refine (live_c _ (HG.out.below (by (repeat (first | (with_reducible first | exact HB1.out |  apply below_alloc | apply pw_below_drewN | apply below_drew1) | exact Below.refl _ _))) rfl)).mono ?_); rintro e w2 ⟨rfl, hb2⟩; have HB2 := Aside0.mk (below_over (by (repeat (first | (with_reducible first | exact HB1.out |  apply below_alloc | apply pw_below_drewN | apply below_drew1) | exact Below.refl _ _))) hb2); clear hb2))
        all_goals go_ret
        all_goals exact ⟨rfl, (by (repeat (first | (with_reducible first | exact HB2.out | exact HB1.out |  apply below_alloc | apply pw_below_drewN | apply below_drew1) | exact Below.refl _ _)))⟩
      have fa : (a == 7) = false := beq_eq_false_iff_ne.mpr ea
      by_cases eo : op = 23
      · have e1 : (op == 23) = true := beq_iff_eq.mpr eo
        clear e7 ea eo L7
        go_wp2_with (first | (go_at_call 11; (with_reducible refine (live_c _ (HG.out.below (by (repeat (first | (with_reducible first | exact HB1.out |  apply below_alloc | apply pw_below_drewN | apply below_drew1) | exact Below.refl _ _))) rfl)).mono ?_); rintro e w2 ⟨rfl, hb2⟩; have HB2 := Aside0.mk (below_over (by (repeat (first | (with_reducible first | exact HB1.out |  apply below_alloc | apply pw_below_drewN | apply below_drew1) | exact Below.refl _ _))) hb2); clear hb2))
        all_goals go_ret
        all_goals exact ⟨rfl, (by (repeat (first | (with_reducible first | exact HB2.out | exact HB1.out |  apply below_alloc | apply pw_below_drewN | apply below_drew1) | exact Below.refl _ _)))⟩
      have fo : (op == 23) = false := beq_eq_false_iff_ne.mpr eo
      have e4 : op = 24 := by rcases L7.out with h | h | h | h; exact absurd h e7; exact absurd h ea; exact absurd h eo; exact h
      have e1 : (op == 24) = true := beq_iff_eq.mpr e4
      clear e7 ea eo L7 e4
      go_wp2_with (first | (go_at_call 11; (with_reducible refine (live_c _ (HG.out.below (by (repeat (first | (with_reducible first | exact HB1.out |  apply below_alloc | apply pw_below_drewN | apply below_drew1) | exact Below.refl _ _))) rfl)).mono ?_); rintro e w2 ⟨rfl, hb2⟩; have HB2 := Aside0.mk (below_over (by (repeat (first | (with_reducible first | exact HB1.out |  apply below_alloc | apply pw_below_drewN | apply below_drew1) | exact Below.refl _ _))) hb2); clear hb2))
      all_goals go_ret
      all_goals exact ⟨rfl, (by (repeat (first | (with_reducible first | exact HB2.out | exact HB1.out |  apply below_alloc | apply pw_below_drewN | apply below_drew1) | exact Below.refl _ _)))⟩
end Go.Proofs.YtjlfjkpbooholaaDoor.M
