/-
  Layer 4: StepPlain, the walk: the law answers true. Condition: the registers are of 64 bits.
-/
import Derived.Test.YtjlfjkpbooholaaDoorLive
import Derived.Test.YtjlfjkpbooholaaDoorPl4
import Derived.Deep.RegionWith
import Derived.Deep.QuietTactic
import Derived.BigQuiet
import Derived.StillTailTactics
namespace Go.Proofs.YtjlfjkpbooholaaDoor.M
open Go.RowKit Go.Proofs.YtjlfjkpbooholaaDoorW.PrintWords Go.Proofs.YtjlfjkpbooholaaDoorW.PrintLast
set_option linter.unusedSimpArgs false
set_option linter.unusedVariables false
attribute [local go_sem] min_ints max_ints setCell_drewN alloc_drewN
set_option maxRecDepth 100000 in
set_option maxHeartbeats 8000000 in
theorem stepPlain_c (c : Cpu) (ok : c.Ok) (op a b n size : Int) (w : World) (hG : Glob w) : Calls Tryd.prog 8 #[c.v, ins op a b n, i64 size] w fun e w' => e = .returned (.bool true) ∧ Below w.heap.size w w' := by
  have s1 := fun W h => start_c c ok op a b n size W h
  have law := plain_law c ok op a b n size
  obtain ⟨r0, r1, r2, r3, r4, r5, r6, r7, pc, st, tr⟩ := c
  have LAW := Aside0.mk law
  clear law
  have HG := Aside0.mk hG
  clear hG
  by_cases g1 : pc < 0
  · have h1 : decide (pc < 0) = true := decide_eq_true g1
    clear s1 ok g1
    go_enter Tryd.func8, Tryd.ntmps8
    have T1 := Aside0.mk trivial; go_wp2_with (first | (go_at_call 11; clear T1; (with_reducible refine (live_c _ (HG.out.below (by (repeat (first | (with_reducible first |  apply below_alloc | apply pw_below_drewN | apply below_drew1) | exact Below.refl _ _))) rfl)).mono ?_); rintro e w1 ⟨rfl, hb1⟩; have HB1 := Aside0.mk (below_over (by (repeat (first | (with_reducible first |  apply below_alloc | apply pw_below_drewN | apply below_drew1) | exact Below.refl _ _))) hb1); clear hb1))
    all_goals go_ret
    all_goals exact ⟨rfl, (by (repeat (first | (with_reducible first | exact HB1.out |  apply below_alloc | apply pw_below_drewN | apply below_drew1) | exact Below.refl _ _)))⟩
  have h1 : decide (pc < 0) = false := decide_eq_false g1
  by_cases g2 : pc > 1099511627776
  · have h2 : decide (pc > 1099511627776) = true := decide_eq_true g2
    clear s1 ok g2 g1
    go_enter Tryd.func8, Tryd.ntmps8
    have T1 := Aside0.mk trivial; go_wp2_with (first | (go_at_call 11; clear T1; (with_reducible refine (live_c _ (HG.out.below (by (repeat (first | (with_reducible first |  apply below_alloc | apply pw_below_drewN | apply below_drew1) | exact Below.refl _ _))) rfl)).mono ?_); rintro e w1 ⟨rfl, hb1⟩; have HB1 := Aside0.mk (below_over (by (repeat (first | (with_reducible first |  apply below_alloc | apply pw_below_drewN | apply below_drew1) | exact Below.refl _ _))) hb1); clear hb1))
    all_goals go_ret
    all_goals exact ⟨rfl, (by (repeat (first | (with_reducible first | exact HB1.out |  apply below_alloc | apply pw_below_drewN | apply below_drew1) | exact Below.refl _ _)))⟩
  have h2 : decide (pc > 1099511627776) = false := decide_eq_false g2
  by_cases g3 : size < 0
  · have h3 : decide (size < 0) = true := decide_eq_true g3
    clear s1 ok g3 g2 g1
    go_enter Tryd.func8, Tryd.ntmps8
    have T1 := Aside0.mk trivial; go_wp2_with (first | (go_at_call 11; clear T1; (with_reducible refine (live_c _ (HG.out.below (by (repeat (first | (with_reducible first |  apply below_alloc | apply pw_below_drewN | apply below_drew1) | exact Below.refl _ _))) rfl)).mono ?_); rintro e w1 ⟨rfl, hb1⟩; have HB1 := Aside0.mk (below_over (by (repeat (first | (with_reducible first |  apply below_alloc | apply pw_below_drewN | apply below_drew1) | exact Below.refl _ _))) hb1); clear hb1))
    all_goals go_ret
    all_goals exact ⟨rfl, (by (repeat (first | (with_reducible first | exact HB1.out |  apply below_alloc | apply pw_below_drewN | apply below_drew1) | exact Below.refl _ _)))⟩
  have h3 : decide (size < 0) = false := decide_eq_false g3
  by_cases g4 : size > 100
  · have h4 : decide (size > 100) = true := decide_eq_true g4
    clear s1 ok g4 g3 g2 g1
    go_enter Tryd.func8, Tryd.ntmps8
    have T1 := Aside0.mk trivial; go_wp2_with (first | (go_at_call 11; clear T1; (with_reducible refine (live_c _ (HG.out.below (by (repeat (first | (with_reducible first |  apply below_alloc | apply pw_below_drewN | apply below_drew1) | exact Below.refl _ _))) rfl)).mono ?_); rintro e w1 ⟨rfl, hb1⟩; have HB1 := Aside0.mk (below_over (by (repeat (first | (with_reducible first |  apply below_alloc | apply pw_below_drewN | apply below_drew1) | exact Below.refl _ _))) hb1); clear hb1))
    all_goals go_ret
    all_goals exact ⟨rfl, (by (repeat (first | (with_reducible first | exact HB1.out |  apply below_alloc | apply pw_below_drewN | apply below_drew1) | exact Below.refl _ _)))⟩
  have h4 : decide (size > 100) = false := decide_eq_false g4
  by_cases g5 : st ≠ 0
  · have h5 : (st != 0) = true := bne_iff_ne.mpr g5
    clear s1 ok g5 g4 g3 g2 g1
    go_enter Tryd.func8, Tryd.ntmps8
    have T1 := Aside0.mk trivial; go_wp2_with (first | (go_at_call 11; clear T1; (with_reducible refine (live_c _ (HG.out.below (by (repeat (first | (with_reducible first |  apply below_alloc | apply pw_below_drewN | apply below_drew1) | exact Below.refl _ _))) rfl)).mono ?_); rintro e w1 ⟨rfl, hb1⟩; have HB1 := Aside0.mk (below_over (by (repeat (first | (with_reducible first |  apply below_alloc | apply pw_below_drewN | apply below_drew1) | exact Below.refl _ _))) hb1); clear hb1))
    all_goals go_ret
    all_goals exact ⟨rfl, (by (repeat (first | (with_reducible first | exact HB1.out |  apply below_alloc | apply pw_below_drewN | apply below_drew1) | exact Below.refl _ _)))⟩
  have h5 : (st != 0) = false := bne_eq_false_iff_eq.mpr (Decidable.not_not.mp g5)
  by_cases g6 : a < 0
  · have h6 : decide (a < 0) = true := decide_eq_true g6
    clear s1 ok g6 g5 g4 g3 g2 g1
    go_enter Tryd.func8, Tryd.ntmps8
    have T1 := Aside0.mk trivial; go_wp2_with (first | (go_at_call 11; clear T1; (with_reducible refine (live_c _ (HG.out.below (by (repeat (first | (with_reducible first |  apply below_alloc | apply pw_below_drewN | apply below_drew1) | exact Below.refl _ _))) rfl)).mono ?_); rintro e w1 ⟨rfl, hb1⟩; have HB1 := Aside0.mk (below_over (by (repeat (first | (with_reducible first |  apply below_alloc | apply pw_below_drewN | apply below_drew1) | exact Below.refl _ _))) hb1); clear hb1))
    all_goals go_ret
    all_goals exact ⟨rfl, (by (repeat (first | (with_reducible first | exact HB1.out |  apply below_alloc | apply pw_below_drewN | apply below_drew1) | exact Below.refl _ _)))⟩
  have h6 : decide (a < 0) = false := decide_eq_false g6
  by_cases g7 : a > 7
  · have h7 : decide (a > 7) = true := decide_eq_true g7
    clear s1 ok g7 g6 g5 g4 g3 g2 g1
    go_enter Tryd.func8, Tryd.ntmps8
    have T1 := Aside0.mk trivial; go_wp2_with (first | (go_at_call 11; clear T1; (with_reducible refine (live_c _ (HG.out.below (by (repeat (first | (with_reducible first |  apply below_alloc | apply pw_below_drewN | apply below_drew1) | exact Below.refl _ _))) rfl)).mono ?_); rintro e w1 ⟨rfl, hb1⟩; have HB1 := Aside0.mk (below_over (by (repeat (first | (with_reducible first |  apply below_alloc | apply pw_below_drewN | apply below_drew1) | exact Below.refl _ _))) hb1); clear hb1))
    all_goals go_ret
    all_goals exact ⟨rfl, (by (repeat (first | (with_reducible first | exact HB1.out |  apply below_alloc | apply pw_below_drewN | apply below_drew1) | exact Below.refl _ _)))⟩
  have h7 : decide (a > 7) = false := decide_eq_false g7
  by_cases g8 : b < 0
  · have h8 : decide (b < 0) = true := decide_eq_true g8
    clear s1 ok g8 g7 g6 g5 g4 g3 g2 g1
    go_enter Tryd.func8, Tryd.ntmps8
    have T1 := Aside0.mk trivial; go_wp2_with (first | (go_at_call 11; clear T1; (with_reducible refine (live_c _ (HG.out.below (by (repeat (first | (with_reducible first |  apply below_alloc | apply pw_below_drewN | apply below_drew1) | exact Below.refl _ _))) rfl)).mono ?_); rintro e w1 ⟨rfl, hb1⟩; have HB1 := Aside0.mk (below_over (by (repeat (first | (with_reducible first |  apply below_alloc | apply pw_below_drewN | apply below_drew1) | exact Below.refl _ _))) hb1); clear hb1))
    all_goals go_ret
    all_goals exact ⟨rfl, (by (repeat (first | (with_reducible first | exact HB1.out |  apply below_alloc | apply pw_below_drewN | apply below_drew1) | exact Below.refl _ _)))⟩
  have h8 : decide (b < 0) = false := decide_eq_false g8
  by_cases g9 : b > 7
  · have h9 : decide (b > 7) = true := decide_eq_true g9
    clear s1 ok g9 g8 g7 g6 g5 g4 g3 g2 g1
    go_enter Tryd.func8, Tryd.ntmps8
    have T1 := Aside0.mk trivial; go_wp2_with (first | (go_at_call 11; clear T1; (with_reducible refine (live_c _ (HG.out.below (by (repeat (first | (with_reducible first |  apply below_alloc | apply pw_below_drewN | apply below_drew1) | exact Below.refl _ _))) rfl)).mono ?_); rintro e w1 ⟨rfl, hb1⟩; have HB1 := Aside0.mk (below_over (by (repeat (first | (with_reducible first |  apply below_alloc | apply pw_below_drewN | apply below_drew1) | exact Below.refl _ _))) hb1); clear hb1))
    all_goals go_ret
    all_goals exact ⟨rfl, (by (repeat (first | (with_reducible first | exact HB1.out |  apply below_alloc | apply pw_below_drewN | apply below_drew1) | exact Below.refl _ _)))⟩
  have h9 : decide (b > 7) = false := decide_eq_false g9
  by_cases g10 : op < 1
  · have h10 : decide (op < 1) = true := decide_eq_true g10
    clear s1 ok g10 g9 g8 g7 g6 g5 g4 g3 g2 g1
    go_enter Tryd.func8, Tryd.ntmps8
    have T1 := Aside0.mk trivial; go_wp2_with (first | (go_at_call 11; clear T1; (with_reducible refine (live_c _ (HG.out.below (by (repeat (first | (with_reducible first |  apply below_alloc | apply pw_below_drewN | apply below_drew1) | exact Below.refl _ _))) rfl)).mono ?_); rintro e w1 ⟨rfl, hb1⟩; have HB1 := Aside0.mk (below_over (by (repeat (first | (with_reducible first |  apply below_alloc | apply pw_below_drewN | apply below_drew1) | exact Below.refl _ _))) hb1); clear hb1))
    all_goals go_ret
    all_goals exact ⟨rfl, (by (repeat (first | (with_reducible first | exact HB1.out |  apply below_alloc | apply pw_below_drewN | apply below_drew1) | exact Below.refl _ _)))⟩
  have h10 : decide (op < 1) = false := decide_eq_false g10
  by_cases g11 : op > 33
  · have h11 : decide (op > 33) = true := decide_eq_true g11
    clear s1 ok g11 g10 g9 g8 g7 g6 g5 g4 g3 g2 g1
    go_enter Tryd.func8, Tryd.ntmps8
    have T1 := Aside0.mk trivial; go_wp2_with (first | (go_at_call 11; clear T1; (with_reducible refine (live_c _ (HG.out.below (by (repeat (first | (with_reducible first |  apply below_alloc | apply pw_below_drewN | apply below_drew1) | exact Below.refl _ _))) rfl)).mono ?_); rintro e w1 ⟨rfl, hb1⟩; have HB1 := Aside0.mk (below_over (by (repeat (first | (with_reducible first |  apply below_alloc | apply pw_below_drewN | apply below_drew1) | exact Below.refl _ _))) hb1); clear hb1))
    all_goals go_ret
    all_goals exact ⟨rfl, (by (repeat (first | (with_reducible first | exact HB1.out |  apply below_alloc | apply pw_below_drewN | apply below_drew1) | exact Below.refl _ _)))⟩
  have h11 : decide (op > 33) = false := decide_eq_false g11
  by_cases g20 : op ≥ 20
  case pos =>
    have h20 : decide (op ≥ 20) = true := decide_eq_true g20
    by_cases g21 : op ≤ 27
    · have h21 : decide (op ≤ 27) = true := decide_eq_true g21
      clear s1 ok g21 g20 g11 g10 g9 g8 g7 g6 g5 g4 g3 g2 g1
      go_enter Tryd.func8, Tryd.ntmps8
      have T1 := Aside0.mk trivial; go_wp2_with (first | (go_at_call 11; clear T1; (with_reducible refine (live_c _ (HG.out.below (by (repeat (first | (with_reducible first |  apply below_alloc | apply pw_below_drewN | apply below_drew1) | exact Below.refl _ _))) rfl)).mono ?_); rintro e w1 ⟨rfl, hb1⟩; have HB1 := Aside0.mk (below_over (by (repeat (first | (with_reducible first |  apply below_alloc | apply pw_below_drewN | apply below_drew1) | exact Below.refl _ _))) hb1); clear hb1))
      all_goals go_ret
      all_goals exact ⟨rfl, (by (repeat (first | (with_reducible first | exact HB1.out |  apply below_alloc | apply pw_below_drewN | apply below_drew1) | exact Below.refl _ _)))⟩
    have h21 : decide (op ≤ 27) = false := decide_eq_false g21
    by_cases g22 : op = 33
    · have h22 : (op == 33) = true := beq_iff_eq.mpr g22
      clear s1 ok g22 g21 g20 g11 g10 g9 g8 g7 g6 g5 g4 g3 g2 g1
      go_enter Tryd.func8, Tryd.ntmps8
      have T1 := Aside0.mk trivial; go_wp2_with (first | (go_at_call 11; clear T1; (with_reducible refine (live_c _ (HG.out.below (by (repeat (first | (with_reducible first |  apply below_alloc | apply pw_below_drewN | apply below_drew1) | exact Below.refl _ _))) rfl)).mono ?_); rintro e w1 ⟨rfl, hb1⟩; have HB1 := Aside0.mk (below_over (by (repeat (first | (with_reducible first |  apply below_alloc | apply pw_below_drewN | apply below_drew1) | exact Below.refl _ _))) hb1); clear hb1))
      all_goals go_ret
      all_goals exact ⟨rfl, (by (repeat (first | (with_reducible first | exact HB1.out |  apply below_alloc | apply pw_below_drewN | apply below_drew1) | exact Below.refl _ _)))⟩
    have h22 : (op == 33) = false := beq_eq_false_iff_ne.mpr g22
    have F := LAW.out (by show st = 0; omega) (by omega) (by omega) (by omega) (by omega) (by omega) (by omega) (.inr (by omega)) g22
    generalize startF ⟨r0, r1, r2, r3, r4, r5, r6, r7, pc, st, tr⟩ op a b n size = p at s1 F
    obtain ⟨⟨d0, d1, d2, d3, d4, d5, d6, d7, dp, ds, dt⟩, ⟨q0, q1, q2, q3⟩⟩ := p
    simp only [Rq.mk.injEq] at F
    have S1 := fun W => Aside0.mk (s1 W)
    clear LAW s1 ok g11 g10 g9 g8 g7 g6 g5 g4 g3 g2 g1
    clear g20 g21 g22
    rcases F with ⟨f1, f2, f3, f4, f5, f6, f7⟩ | ⟨f1, f2, f3⟩
    · subst f1 f3 f4 f5 f6 f7
      rcases f2 with rfl | rfl
      all_goals
        go_enter Tryd.func8, Tryd.ntmps8
        have T1 := Aside0.mk trivial; have T2 := Aside0.mk trivial; go_wp2_with (first | (go_at_call 9; clear T1; (with_reducible refine ((S1 _).out (HG.out.below (by (repeat (first | (with_reducible first |  apply below_alloc | apply pw_below_drewN | apply below_drew1) | exact Below.refl _ _))) rfl)).mono ?_); rintro e w1 ⟨rfl, hb1⟩; have HB1 := Aside0.mk (below_over (by (repeat (first | (with_reducible first |  apply below_alloc | apply pw_below_drewN | apply below_drew1) | exact Below.refl _ _))) hb1); have hz1_0 : w.heap.size < w1.heap.size := (by have h_ := hb1.size; simp at h_; omega); have hz1_1 : w.heap.size + 1 < w1.heap.size := (by have h_ := hb1.size; simp at h_; omega); obtain ⟨hc1, hf1⟩ := bcell hb1; clear hb1) | (go_at_call 11; clear T2; (with_reducible refine (live_c _ (HG.out.below (by (repeat (first | (with_reducible first | exact HB1.out |  apply below_alloc | apply pw_below_drewN | apply below_drew1) | exact Below.refl _ _))) rfl)).mono ?_); rintro e w2 ⟨rfl, hb2⟩; have HB2 := Aside0.mk (below_over (by (repeat (first | (with_reducible first | exact HB1.out |  apply below_alloc | apply pw_below_drewN | apply below_drew1) | exact Below.refl _ _))) hb2); clear hb2))
        all_goals go_ret
        all_goals exact ⟨rfl, (by (repeat (first | (with_reducible first | exact HB2.out | exact HB1.out |  apply below_alloc | apply pw_below_drewN | apply below_drew1) | exact Below.refl _ _)))⟩
    · have e1 : (ds == 2) = false := beq_eq_false_iff_ne.mpr f1
      subst f2
      have e3 : ((ds == 1) == (op == 32)) = true := by
        by_cases g : op = 32
        · rw [beq_iff_eq.mpr (f3.mpr g), beq_iff_eq.mpr g]; rfl
        · rw [beq_eq_false_iff_ne.mpr (fun h => g (f3.mp h)), beq_eq_false_iff_ne.mpr g]; rfl
      clear f1 f3
      go_enter Tryd.func8, Tryd.ntmps8
      have T1 := Aside0.mk trivial; have T2 := Aside0.mk trivial; go_wp2_with (first | (go_at_call 9; clear T1; (with_reducible refine ((S1 _).out (HG.out.below (by (repeat (first | (with_reducible first |  apply below_alloc | apply pw_below_drewN | apply below_drew1) | exact Below.refl _ _))) rfl)).mono ?_); rintro e w1 ⟨rfl, hb1⟩; have HB1 := Aside0.mk (below_over (by (repeat (first | (with_reducible first |  apply below_alloc | apply pw_below_drewN | apply below_drew1) | exact Below.refl _ _))) hb1); have hz1_0 : w.heap.size < w1.heap.size := (by have h_ := hb1.size; simp at h_; omega); have hz1_1 : w.heap.size + 1 < w1.heap.size := (by have h_ := hb1.size; simp at h_; omega); obtain ⟨hc1, hf1⟩ := bcell hb1; clear hb1) | (go_at_call 11; clear T2; (with_reducible refine (live_c _ (HG.out.below (by (repeat (first | (with_reducible first | exact HB1.out |  apply below_alloc | apply pw_below_drewN | apply below_drew1) | exact Below.refl _ _))) rfl)).mono ?_); rintro e w2 ⟨rfl, hb2⟩; have HB2 := Aside0.mk (below_over (by (repeat (first | (with_reducible first | exact HB1.out |  apply below_alloc | apply pw_below_drewN | apply below_drew1) | exact Below.refl _ _))) hb2); clear hb2))
      all_goals go_ret
      all_goals exact ⟨rfl, (by (repeat (first | (with_reducible first | exact HB2.out | exact HB1.out |  apply below_alloc | apply pw_below_drewN | apply below_drew1) | exact Below.refl _ _)))⟩
  have h20 : decide (op ≥ 20) = false := decide_eq_false g20
  have h22 : (op == 33) = false := beq_eq_false_iff_ne.mpr (by omega)
  have F := LAW.out (by show st = 0; omega) (by omega) (by omega) (by omega) (by omega) (by omega) (by omega) (.inl (by omega)) (by omega)
  generalize startF ⟨r0, r1, r2, r3, r4, r5, r6, r7, pc, st, tr⟩ op a b n size = p at s1 F
  obtain ⟨⟨d0, d1, d2, d3, d4, d5, d6, d7, dp, ds, dt⟩, ⟨q0, q1, q2, q3⟩⟩ := p
  simp only [Rq.mk.injEq] at F
  have S1 := fun W => Aside0.mk (s1 W)
  clear LAW s1 ok g11 g10 g9 g8 g7 g6 g5 g4 g3 g2 g1
  clear g20
  rcases F with ⟨f1, f2, f3, f4, f5, f6, f7⟩ | ⟨f1, f2, f3⟩
  · subst f1 f3 f4 f5 f6 f7
    rcases f2 with rfl | rfl
    all_goals
      go_enter Tryd.func8, Tryd.ntmps8
      have T1 := Aside0.mk trivial; have T2 := Aside0.mk trivial; go_wp2_with (first | (go_at_call 9; clear T1; (with_reducible refine ((S1 _).out (HG.out.below (by (repeat (first | (with_reducible first |  apply below_alloc | apply pw_below_drewN | apply below_drew1) | exact Below.refl _ _))) rfl)).mono ?_); rintro e w1 ⟨rfl, hb1⟩; have HB1 := Aside0.mk (below_over (by (repeat (first | (with_reducible first |  apply below_alloc | apply pw_below_drewN | apply below_drew1) | exact Below.refl _ _))) hb1); have hz1_0 : w.heap.size < w1.heap.size := (by have h_ := hb1.size; simp at h_; omega); have hz1_1 : w.heap.size + 1 < w1.heap.size := (by have h_ := hb1.size; simp at h_; omega); obtain ⟨hc1, hf1⟩ := bcell hb1; clear hb1) | (go_at_call 11; clear T2; (with_reducible refine (live_c _ (HG.out.below (by (repeat (first | (with_reducible first | exact HB1.out |  apply below_alloc | apply pw_below_drewN | apply below_drew1) | exact Below.refl _ _))) rfl)).mono ?_); rintro e w2 ⟨rfl, hb2⟩; have HB2 := Aside0.mk (below_over (by (repeat (first | (with_reducible first | exact HB1.out |  apply below_alloc | apply pw_below_drewN | apply below_drew1) | exact Below.refl _ _))) hb2); clear hb2))
      all_goals go_ret
      all_goals exact ⟨rfl, (by (repeat (first | (with_reducible first | exact HB2.out | exact HB1.out |  apply below_alloc | apply pw_below_drewN | apply below_drew1) | exact Below.refl _ _)))⟩
  · have e1 : (ds == 2) = false := beq_eq_false_iff_ne.mpr f1
    subst f2
    have e3 : ((ds == 1) == (op == 32)) = true := by
      by_cases g : op = 32
      · rw [beq_iff_eq.mpr (f3.mpr g), beq_iff_eq.mpr g]; rfl
      · rw [beq_eq_false_iff_ne.mpr (fun h => g (f3.mp h)), beq_eq_false_iff_ne.mpr g]; rfl
    clear f1 f3
    go_enter Tryd.func8, Tryd.ntmps8
    have T1 := Aside0.mk trivial; have T2 := Aside0.mk trivial; go_wp2_with (first | (go_at_call 9; clear T1; (with_reducible refine ((S1 _).out (HG.out.below (by (repeat (first | (with_reducible first |  apply below_alloc | apply pw_below_drewN | apply below_drew1) | exact Below.refl _ _))) rfl)).mono ?_); rintro e w1 ⟨rfl, hb1⟩; have HB1 := Aside0.mk (below_over (by (repeat (first | (with_reducible first |  apply below_alloc | apply pw_below_drewN | apply below_drew1) | exact Below.refl _ _))) hb1); have hz1_0 : w.heap.size < w1.heap.size := (by have h_ := hb1.size; simp at h_; omega); have hz1_1 : w.heap.size + 1 < w1.heap.size := (by have h_ := hb1.size; simp at h_; omega); obtain ⟨hc1, hf1⟩ := bcell hb1; clear hb1) | (go_at_call 11; clear T2; (with_reducible refine (live_c _ (HG.out.below (by (repeat (first | (with_reducible first | exact HB1.out |  apply below_alloc | apply pw_below_drewN | apply below_drew1) | exact Below.refl _ _))) rfl)).mono ?_); rintro e w2 ⟨rfl, hb2⟩; have HB2 := Aside0.mk (below_over (by (repeat (first | (with_reducible first | exact HB1.out |  apply below_alloc | apply pw_below_drewN | apply below_drew1) | exact Below.refl _ _))) hb2); clear hb2))
    all_goals go_ret
    all_goals exact ⟨rfl, (by (repeat (first | (with_reducible first | exact HB2.out | exact HB1.out |  apply below_alloc | apply pw_below_drewN | apply below_drew1) | exact Below.refl _ _)))⟩
end Go.Proofs.YtjlfjkpbooholaaDoor.M
