-- Written by a program of this session (wip/ownprint.py) over the translation. Lean checks it.
import Derived.Test.YtjlfjkpbooholaaDoorM0
namespace Go.Proofs.YtjlfjkpbooholaaDoor.M
open Go.RowKit Go.Proofs.YtjlfjkpbooholaaDoorW.PrintWords Go.Proofs.YtjlfjkpbooholaaDoorW.PrintLast
set_option linter.unusedVariables false
set_option linter.unusedSimpArgs false

/-! ### cotterref03_form: function 26 -/
mutual
def cotterref03_form.j0 : Nat → Int → Bool → Option (Int)
  | 0, _, _ => none
  | k + 1, x0, x6 => if x6 = true then (some 2) else (if x0 = 17 then (cotterref03_form.j1 k x0 true) else (if x0 = 18 then (cotterref03_form.j1 k x0 true) else (if x0 = 28 then (cotterref03_form.j1 k x0 true) else (cotterref03_form.j1 k x0 (x0 == 29)))))
def cotterref03_form.j1 : Nat → Int → Bool → Option (Int)
  | 0, _, _ => none
  | k + 1, x0, x13 => if x13 = true then (some 3) else (if x0 = 19 then (cotterref03_form.j2 k x0 true) else (if x0 = 21 then (cotterref03_form.j2 k x0 true) else (cotterref03_form.j2 k x0 (x0 == 22))))
def cotterref03_form.j2 : Nat → Int → Bool → Option (Int)
  | 0, _, _ => none
  | k + 1, x0, x28 => if x28 = true then (some 4) else (if x0 = 20 then (cotterref03_form.j3 k x0 true) else (cotterref03_form.j3 k x0 (x0 == 23)))
def cotterref03_form.j3 : Nat → Int → Bool → Option (Int)
  | 0, _, _ => none
  | k + 1, x0, x39 => if x39 = true then (some 5) else (if x0 = 24 then (cotterref03_form.j4 k x0 true) else (if x0 = 30 then (cotterref03_form.j4 k x0 true) else (cotterref03_form.j4 k x0 (x0 == 32))))
def cotterref03_form.j4 : Nat → Int → Bool → Option (Int)
  | 0, _, _ => none
  | k + 1, x0, x46 => if x46 = true then (some 6) else (if x0 = 25 then (some 7) else (if x0 = 26 then (cotterref03_form.j5 k x0 true) else (cotterref03_form.j5 k x0 (x0 == 27))))
def cotterref03_form.j5 : Nat → Int → Bool → Option (Int)
  | 0, _, _ => none
  | k + 1, x0, x60 => if x60 = true then (some 8) else (if x0 = 31 then (some 9) else (if x0 = 33 then (some 10) else (some 0)))
end
def cotterref03_form.f (k : Nat) (a0 : Int) : Option (Int) := if a0 = 1 then (some 1) else (if a0 ≥ 2 then (cotterref03_form.j0 k a0 (decide (a0 ≤ 16))) else (cotterref03_form.j0 k a0 false))
theorem cotterref03_form.mono_l : ∀ k, (∀ y0 y1, LeO (cotterref03_form.j0 k y0 y1) (cotterref03_form.j0 (k + 1) y0 y1)) ∧ (∀ y0 y1, LeO (cotterref03_form.j1 k y0 y1) (cotterref03_form.j1 (k + 1) y0 y1)) ∧ (∀ y0 y1, LeO (cotterref03_form.j2 k y0 y1) (cotterref03_form.j2 (k + 1) y0 y1)) ∧ (∀ y0 y1, LeO (cotterref03_form.j3 k y0 y1) (cotterref03_form.j3 (k + 1) y0 y1)) ∧ (∀ y0 y1, LeO (cotterref03_form.j4 k y0 y1) (cotterref03_form.j4 (k + 1) y0 y1)) ∧ (∀ y0 y1, LeO (cotterref03_form.j5 k y0 y1) (cotterref03_form.j5 (k + 1) y0 y1))
  | 0 => ⟨fun _ _ r h => by simp [cotterref03_form.j0] at h, fun _ _ r h => by simp [cotterref03_form.j1] at h, fun _ _ r h => by simp [cotterref03_form.j2] at h, fun _ _ r h => by simp [cotterref03_form.j3] at h, fun _ _ r h => by simp [cotterref03_form.j4] at h, fun _ _ r h => by simp [cotterref03_form.j5] at h⟩
  | k + 1 => by
    obtain ⟨ih0, ih1, ih2, ih3, ih4, ih5⟩ := cotterref03_form.mono_l k
    refine ⟨?_, ?_, ?_, ?_, ?_, ?_⟩
    · intro y0 y1
      unfold cotterref03_form.j0
      repeat' first
      | (with_reducible exact ih0 _ _)
      | (with_reducible exact ih1 _ _)
      | (with_reducible exact ih2 _ _)
      | (with_reducible exact ih3 _ _)
      | (with_reducible exact ih4 _ _)
      | (with_reducible exact ih5 _ _)
      | (with_reducible exact LeO.refl _)
      | (with_reducible exact LeO.none _)
      | (with_reducible refine LeO.ite ?_ ?_)
      | (with_reducible refine LeO.bind ?_ (fun _ => ?_))
      | exact ih0 _ _
      | exact ih1 _ _
      | exact ih2 _ _
      | exact ih3 _ _
      | exact ih4 _ _
      | exact ih5 _ _
      | exact LeO.none _
      | refine LeO.ite ?_ ?_
      | refine LeO.bind ?_ (fun _ => ?_)
    · intro y0 y1
      unfold cotterref03_form.j1
      repeat' first
      | (with_reducible exact ih0 _ _)
      | (with_reducible exact ih1 _ _)
      | (with_reducible exact ih2 _ _)
      | (with_reducible exact ih3 _ _)
      | (with_reducible exact ih4 _ _)
      | (with_reducible exact ih5 _ _)
      | (with_reducible exact LeO.refl _)
      | (with_reducible exact LeO.none _)
      | (with_reducible refine LeO.ite ?_ ?_)
      | (with_reducible refine LeO.bind ?_ (fun _ => ?_))
      | exact ih0 _ _
      | exact ih1 _ _
      | exact ih2 _ _
      | exact ih3 _ _
      | exact ih4 _ _
      | exact ih5 _ _
      | exact LeO.none _
      | refine LeO.ite ?_ ?_
      | refine LeO.bind ?_ (fun _ => ?_)
    · intro y0 y1
      unfold cotterref03_form.j2
      repeat' first
      | (with_reducible exact ih0 _ _)
      | (with_reducible exact ih1 _ _)
      | (with_reducible exact ih2 _ _)
      | (with_reducible exact ih3 _ _)
      | (with_reducible exact ih4 _ _)
      | (with_reducible exact ih5 _ _)
      | (with_reducible exact LeO.refl _)
      | (with_reducible exact LeO.none _)
      | (with_reducible refine LeO.ite ?_ ?_)
      | (with_reducible refine LeO.bind ?_ (fun _ => ?_))
      | exact ih0 _ _
      | exact ih1 _ _
      | exact ih2 _ _
      | exact ih3 _ _
      | exact ih4 _ _
      | exact ih5 _ _
      | exact LeO.none _
      | refine LeO.ite ?_ ?_
      | refine LeO.bind ?_ (fun _ => ?_)
    · intro y0 y1
      unfold cotterref03_form.j3
      repeat' first
      | (with_reducible exact ih0 _ _)
      | (with_reducible exact ih1 _ _)
      | (with_reducible exact ih2 _ _)
      | (with_reducible exact ih3 _ _)
      | (with_reducible exact ih4 _ _)
      | (with_reducible exact ih5 _ _)
      | (with_reducible exact LeO.refl _)
      | (with_reducible exact LeO.none _)
      | (with_reducible refine LeO.ite ?_ ?_)
      | (with_reducible refine LeO.bind ?_ (fun _ => ?_))
      | exact ih0 _ _
      | exact ih1 _ _
      | exact ih2 _ _
      | exact ih3 _ _
      | exact ih4 _ _
      | exact ih5 _ _
      | exact LeO.none _
      | refine LeO.ite ?_ ?_
      | refine LeO.bind ?_ (fun _ => ?_)
    · intro y0 y1
      unfold cotterref03_form.j4
      repeat' first
      | (with_reducible exact ih0 _ _)
      | (with_reducible exact ih1 _ _)
      | (with_reducible exact ih2 _ _)
      | (with_reducible exact ih3 _ _)
      | (with_reducible exact ih4 _ _)
      | (with_reducible exact ih5 _ _)
      | (with_reducible exact LeO.refl _)
      | (with_reducible exact LeO.none _)
      | (with_reducible refine LeO.ite ?_ ?_)
      | (with_reducible refine LeO.bind ?_ (fun _ => ?_))
      | exact ih0 _ _
      | exact ih1 _ _
      | exact ih2 _ _
      | exact ih3 _ _
      | exact ih4 _ _
      | exact ih5 _ _
      | exact LeO.none _
      | refine LeO.ite ?_ ?_
      | refine LeO.bind ?_ (fun _ => ?_)
    · intro y0 y1
      unfold cotterref03_form.j5
      repeat' first
      | (with_reducible exact ih0 _ _)
      | (with_reducible exact ih1 _ _)
      | (with_reducible exact ih2 _ _)
      | (with_reducible exact ih3 _ _)
      | (with_reducible exact ih4 _ _)
      | (with_reducible exact ih5 _ _)
      | (with_reducible exact LeO.refl _)
      | (with_reducible exact LeO.none _)
      | (with_reducible refine LeO.ite ?_ ?_)
      | (with_reducible refine LeO.bind ?_ (fun _ => ?_))
      | exact ih0 _ _
      | exact ih1 _ _
      | exact ih2 _ _
      | exact ih3 _ _
      | exact ih4 _ _
      | exact ih5 _ _
      | exact LeO.none _
      | refine LeO.ite ?_ ?_
      | refine LeO.bind ?_ (fun _ => ?_)
theorem cotterref03_form.mono : ∀ a0 k, LeO (cotterref03_form.f k a0) (cotterref03_form.f (k + 1) a0) := by
  intro a0 k
  obtain ⟨ih0, ih1, ih2, ih3, ih4, ih5⟩ := cotterref03_form.mono_l k
  unfold cotterref03_form.f
  repeat' first
      | (with_reducible exact ih0 _ _)
      | (with_reducible exact ih1 _ _)
      | (with_reducible exact ih2 _ _)
      | (with_reducible exact ih3 _ _)
      | (with_reducible exact ih4 _ _)
      | (with_reducible exact ih5 _ _)
      | (with_reducible exact LeO.refl _)
      | (with_reducible exact LeO.none _)
      | (with_reducible refine LeO.ite ?_ ?_)
      | (with_reducible refine LeO.bind ?_ (fun _ => ?_))
      | exact ih0 _ _
      | exact ih1 _ _
      | exact ih2 _ _
      | exact ih3 _ _
      | exact ih4 _ _
      | exact ih5 _ _
      | exact LeO.none _
      | refine LeO.ite ?_ ?_
      | refine LeO.bind ?_ (fun _ => ?_)
set_option maxHeartbeats 8000000 in
set_option maxRecDepth 100000 in
theorem cotterref03_form.calls (k : Nat) (a0 : Int) (r : Int) (w : World) (h : cotterref03_form.f k a0 = some r) :
    Calls Tryd.prog 26 #[.int .i64 a0] w fun e w' => e = .returned (.int .i64 r) ∧ Drawn0 w w' := by
  have H : (if a0 = 1 then (some 1) else (if a0 ≥ 2 then (cotterref03_form.j0 k a0 (decide (a0 ≤ 16))) else (cotterref03_form.j0 k a0 false))) = some r := h
  clear h
  by_cases c2 : a0 = 1
  · rw [if_pos c2] at H
    have c2b0 : (a0 == 1) = true := beq_iff_eq.mpr c2
    have c2b1 : (a0 != 1) = false := bne_eq_false_iff_eq.mpr c2
    clear c2
    obtain rfl := Option.some.inj H
    go_enter Tryd.func26, Tryd.ntmps26
    go_wp2
    go_ret
    exact ⟨by first | rfl | (simp; done) | (simp [*]; done), by repeat (first | exact Drawn0.refl _ | apply Drawn0.step)⟩
  · rw [if_neg c2] at H
    have c2b0 : (a0 == 1) = false := beq_eq_false_iff_ne.mpr c2
    have c2b1 : (a0 != 1) = true := bne_iff_ne.mpr c2
    have HC3 := Aside0.mk H
    clear H
    go_enter Tryd.func26, Tryd.ntmps26
    go_upto_region 3 with (fail)
    go_cut [6] (fun v6 wc => ∃ (kq : Nat) (x6_2 : Bool), v6 = .bool x6_2 ∧ Aside0 (cotterref03_form.j0 kq a0 x6_2 = some r) ∧ Aside0 (kq ≤ k) ∧ Drawn0 w wc)
    case first =>
      have H := HC3.out
      clear HC3
      by_cases c4 : a0 ≥ 2
      · rw [if_pos c4] at H
        have c4b0 : decide (2 ≤ a0) = true := decide_eq_true c4
        clear c4
        (first | rw [c4b0] | (simp only [i64_w, i32_w]; rw [c4b0]) | skip)
        have H' := Aside0.mk H
        clear H
        go_wp2
        go_meet
        case rel => exact ⟨_, (decide (a0 ≤ 16)), (by first | rfl | (simp; done) | (simp [*]; done)), H', ⟨by first | omega | exact Nat.le_refl _⟩, by repeat (first | exact Drawn0.refl _ | apply Drawn0.step)⟩
      · rw [if_neg c4] at H
        have c4b0 : decide (2 ≤ a0) = false := decide_eq_false c4
        clear c4
        (first | rw [c4b0] | (simp only [i64_w, i32_w]; rw [c4b0]) | skip)
        have H' := Aside0.mk H
        clear H
        go_wp2
        go_meet
        case rel => exact ⟨_, (false), (by first | rfl | (simp; done) | (simp [*]; done)), H', ⟨by first | omega | exact Nat.le_refl _⟩, by repeat (first | exact Drawn0.refl _ | apply Drawn0.step)⟩
    case rest =>
      clear HC3
      try clear c2
      try clear c2b0
      try clear c2b1
      try clear p2
      try clear c4
      try clear c4b0
      obtain ⟨kq, x6_2, rfl, HA, HJ2, ⟨mc2, rfl⟩⟩ := hcut
      cases kq with
      | zero => exact absurd HA.out (by simp [cotterref03_form.j0])
      | succ kj2 =>
        have H := HA.out
        clear HA
        simp only [cotterref03_form.j0] at H
        by_cases c5 : x6_2 = true
        · subst c5
          have H1 : (some 2) = some r := by rw [if_pos rfl] at H; exact H
          clear H
          have H := H1
          clear H1
          obtain rfl := Option.some.inj H
          go_wp2
          go_ret
          exact ⟨by first | rfl | (simp; done) | (simp [*]; done), by repeat (first | exact Drawn0.refl _ | apply Drawn0.step)⟩
        · replace c5 := Bool.eq_false_iff.mpr c5
          subst c5
          have H1 : (if a0 = 17 then (cotterref03_form.j1 kj2 a0 true) else (if a0 = 18 then (cotterref03_form.j1 kj2 a0 true) else (if a0 = 28 then (cotterref03_form.j1 kj2 a0 true) else (cotterref03_form.j1 kj2 a0 (a0 == 29))))) = some r := by rw [if_neg (show ¬ (false = true) by decide)] at H; exact H
          clear H
          have H := H1
          clear H1
          have HC6 := Aside0.mk H
          clear H
          go_upto_region 5 with (fail)
          go_cut [13] (fun v13 wc => ∃ (kq : Nat) (x13_5 : Bool), v13 = .bool x13_5 ∧ Aside0 (cotterref03_form.j1 kq a0 x13_5 = some r) ∧ Aside0 (kq ≤ kj2) ∧ Drawn0 w wc)
          case first =>
            have H := HC6.out
            clear HC6
            by_cases c7 : a0 = 17
            · rw [if_pos c7] at H
              have c7b0 : (a0 == 17) = true := beq_iff_eq.mpr c7
              have c7b1 : (a0 != 17) = false := bne_eq_false_iff_eq.mpr c7
              clear c7
              (first | rw [c7b0] | (simp only [i64_w, i32_w]; rw [c7b0]) | skip)
              have H' := Aside0.mk H
              clear H
              go_wp2
              go_meet
              case rel => exact ⟨_, (true), (by first | rfl | (simp; done) | (simp [*]; done)), H', ⟨by have := HJ2.out; first | omega | exact Nat.le_refl _⟩, by repeat (first | exact Drawn0.refl _ | apply Drawn0.step)⟩
            · rw [if_neg c7] at H
              have c7b0 : (a0 == 17) = false := beq_eq_false_iff_ne.mpr c7
              have c7b1 : (a0 != 17) = true := bne_iff_ne.mpr c7
              (first | rw [c7b0] | (simp only [i64_w, i32_w]; rw [c7b0]) | skip)
              by_cases c8 : a0 = 18
              · rw [if_pos c8] at H
                have c8b0 : (a0 == 18) = true := beq_iff_eq.mpr c8
                have c8b1 : (a0 != 18) = false := bne_eq_false_iff_eq.mpr c8
                clear c8
                have H' := Aside0.mk H
                clear H
                go_wp2
                go_meet
                case rel => exact ⟨_, (true), (by first | rfl | (simp; done) | (simp [*]; done)), H', ⟨by have := HJ2.out; first | omega | exact Nat.le_refl _⟩, by repeat (first | exact Drawn0.refl _ | apply Drawn0.step)⟩
              · rw [if_neg c8] at H
                have c8b0 : (a0 == 18) = false := beq_eq_false_iff_ne.mpr c8
                have c8b1 : (a0 != 18) = true := bne_iff_ne.mpr c8
                by_cases c9 : a0 = 28
                · rw [if_pos c9] at H
                  have c9b0 : (a0 == 28) = true := beq_iff_eq.mpr c9
                  have c9b1 : (a0 != 28) = false := bne_eq_false_iff_eq.mpr c9
                  clear c9
                  have H' := Aside0.mk H
                  clear H
                  go_wp2
                  go_meet
                  case rel => exact ⟨_, (true), (by first | rfl | (simp; done) | (simp [*]; done)), H', ⟨by have := HJ2.out; first | omega | exact Nat.le_refl _⟩, by repeat (first | exact Drawn0.refl _ | apply Drawn0.step)⟩
                · rw [if_neg c9] at H
                  have c9b0 : (a0 == 28) = false := beq_eq_false_iff_ne.mpr c9
                  have c9b1 : (a0 != 28) = true := bne_iff_ne.mpr c9
                  have H' := Aside0.mk H
                  clear H
                  go_wp2
                  go_meet
                  case rel => exact ⟨_, ((a0 == 29)), (by first | rfl | (simp; done) | (simp [*]; done)), H', ⟨by have := HJ2.out; first | omega | exact Nat.le_refl _⟩, by repeat (first | exact Drawn0.refl _ | apply Drawn0.step)⟩
          case rest =>
            clear HC6
            try clear c2
            try clear c2b0
            try clear c2b1
            try clear p2
            try clear c4
            try clear c4b0
            try clear c5
            try clear c7
            try clear c7b0
            try clear c7b1
            try clear c8
            try clear c8b0
            try clear c8b1
            try clear c9
            try clear c9b0
            try clear c9b1
            try clear p2
            obtain ⟨kq, x13_5, rfl, HA, HJ5, ⟨mc5, rfl⟩⟩ := hcut
            cases kq with
            | zero => exact absurd HA.out (by simp [cotterref03_form.j1])
            | succ kj5 =>
              have H := HA.out
              clear HA
              simp only [cotterref03_form.j1] at H
              by_cases c10 : x13_5 = true
              · subst c10
                have H1 : (some 3) = some r := by rw [if_pos rfl] at H; exact H
                clear H
                have H := H1
                clear H1
                obtain rfl := Option.some.inj H
                go_wp2
                go_ret
                exact ⟨by first | rfl | (simp; done) | (simp [*]; done), by repeat (first | exact Drawn0.refl _ | apply Drawn0.step)⟩
              · replace c10 := Bool.eq_false_iff.mpr c10
                subst c10
                have H1 : (if a0 = 19 then (cotterref03_form.j2 kj5 a0 true) else (if a0 = 21 then (cotterref03_form.j2 kj5 a0 true) else (cotterref03_form.j2 kj5 a0 (a0 == 22)))) = some r := by rw [if_neg (show ¬ (false = true) by decide)] at H; exact H
                clear H
                have H := H1
                clear H1
                have HC11 := Aside0.mk H
                clear H
                go_upto_region 7 with (fail)
                go_cut [28] (fun v28 wc => ∃ (kq : Nat) (x28_10 : Bool), v28 = .bool x28_10 ∧ Aside0 (cotterref03_form.j2 kq a0 x28_10 = some r) ∧ Aside0 (kq ≤ kj5) ∧ Drawn0 w wc)
                case first =>
                  have H := HC11.out
                  clear HC11
                  by_cases c12 : a0 = 19
                  · rw [if_pos c12] at H
                    have c12b0 : (a0 == 19) = true := beq_iff_eq.mpr c12
                    have c12b1 : (a0 != 19) = false := bne_eq_false_iff_eq.mpr c12
                    clear c12
                    (first | rw [c12b0] | (simp only [i64_w, i32_w]; rw [c12b0]) | skip)
                    have H' := Aside0.mk H
                    clear H
                    go_wp2
                    go_meet
                    case rel => exact ⟨_, (true), (by first | rfl | (simp; done) | (simp [*]; done)), H', ⟨by have := HJ2.out; have := HJ5.out; first | omega | exact Nat.le_refl _⟩, by repeat (first | exact Drawn0.refl _ | apply Drawn0.step)⟩
                  · rw [if_neg c12] at H
                    have c12b0 : (a0 == 19) = false := beq_eq_false_iff_ne.mpr c12
                    have c12b1 : (a0 != 19) = true := bne_iff_ne.mpr c12
                    (first | rw [c12b0] | (simp only [i64_w, i32_w]; rw [c12b0]) | skip)
                    by_cases c13 : a0 = 21
                    · rw [if_pos c13] at H
                      have c13b0 : (a0 == 21) = true := beq_iff_eq.mpr c13
                      have c13b1 : (a0 != 21) = false := bne_eq_false_iff_eq.mpr c13
                      clear c13
                      have H' := Aside0.mk H
                      clear H
                      go_wp2
                      go_meet
                      case rel => exact ⟨_, (true), (by first | rfl | (simp; done) | (simp [*]; done)), H', ⟨by have := HJ2.out; have := HJ5.out; first | omega | exact Nat.le_refl _⟩, by repeat (first | exact Drawn0.refl _ | apply Drawn0.step)⟩
                    · rw [if_neg c13] at H
                      have c13b0 : (a0 == 21) = false := beq_eq_false_iff_ne.mpr c13
                      have c13b1 : (a0 != 21) = true := bne_iff_ne.mpr c13
                      have H' := Aside0.mk H
                      clear H
                      go_wp2
                      go_meet
                      case rel => exact ⟨_, ((a0 == 22)), (by first | rfl | (simp; done) | (simp [*]; done)), H', ⟨by have := HJ2.out; have := HJ5.out; first | omega | exact Nat.le_refl _⟩, by repeat (first | exact Drawn0.refl _ | apply Drawn0.step)⟩
                case rest =>
                  clear HC11
                  try clear c1
                  try clear c2
                  try clear c2b0
                  try clear c2b1
                  try clear p2
                  try clear c4
                  try clear c4b0
                  try clear c5
                  try clear c7
                  try clear c7b0
                  try clear c7b1
                  try clear c8
                  try clear c8b0
                  try clear c8b1
                  try clear c9
                  try clear c9b0
                  try clear c9b1
                  try clear c10
                  try clear c12
                  try clear c12b0
                  try clear c12b1
                  try clear c13
                  try clear c13b0
                  try clear c13b1
                  try clear p2
                  obtain ⟨kq, x28_10, rfl, HA, HJ10, ⟨mc10, rfl⟩⟩ := hcut
                  cases kq with
                  | zero => exact absurd HA.out (by simp [cotterref03_form.j2])
                  | succ kj10 =>
                    have H := HA.out
                    clear HA
                    simp only [cotterref03_form.j2] at H
                    by_cases c14 : x28_10 = true
                    · subst c14
                      have H1 : (some 4) = some r := by rw [if_pos rfl] at H; exact H
                      clear H
                      have H := H1
                      clear H1
                      obtain rfl := Option.some.inj H
                      go_wp2
                      go_ret
                      exact ⟨by first | rfl | (simp; done) | (simp [*]; done), by repeat (first | exact Drawn0.refl _ | apply Drawn0.step)⟩
                    · replace c14 := Bool.eq_false_iff.mpr c14
                      subst c14
                      have H1 : (if a0 = 20 then (cotterref03_form.j3 kj10 a0 true) else (cotterref03_form.j3 kj10 a0 (a0 == 23))) = some r := by rw [if_neg (show ¬ (false = true) by decide)] at H; exact H
                      clear H
                      have H := H1
                      clear H1
                      have HC15 := Aside0.mk H
                      clear H
                      go_upto_region 9 with (fail)
                      go_cut [39] (fun v39 wc => ∃ (kq : Nat) (x39_14 : Bool), v39 = .bool x39_14 ∧ Aside0 (cotterref03_form.j3 kq a0 x39_14 = some r) ∧ Aside0 (kq ≤ kj10) ∧ Drawn0 w wc)
                      case first =>
                        have H := HC15.out
                        clear HC15
                        by_cases c16 : a0 = 20
                        · rw [if_pos c16] at H
                          have c16b0 : (a0 == 20) = true := beq_iff_eq.mpr c16
                          have c16b1 : (a0 != 20) = false := bne_eq_false_iff_eq.mpr c16
                          clear c16
                          (first | rw [c16b0] | (simp only [i64_w, i32_w]; rw [c16b0]) | skip)
                          have H' := Aside0.mk H
                          clear H
                          go_wp2
                          go_meet
                          case rel => exact ⟨_, (true), (by first | rfl | (simp; done) | (simp [*]; done)), H', ⟨by have := HJ2.out; have := HJ5.out; have := HJ10.out; first | omega | exact Nat.le_refl _⟩, by repeat (first | exact Drawn0.refl _ | apply Drawn0.step)⟩
                        · rw [if_neg c16] at H
                          have c16b0 : (a0 == 20) = false := beq_eq_false_iff_ne.mpr c16
                          have c16b1 : (a0 != 20) = true := bne_iff_ne.mpr c16
                          (first | rw [c16b0] | (simp only [i64_w, i32_w]; rw [c16b0]) | skip)
                          have H' := Aside0.mk H
                          clear H
                          go_wp2
                          go_meet
                          case rel => exact ⟨_, ((a0 == 23)), (by first | rfl | (simp; done) | (simp [*]; done)), H', ⟨by have := HJ2.out; have := HJ5.out; have := HJ10.out; first | omega | exact Nat.le_refl _⟩, by repeat (first | exact Drawn0.refl _ | apply Drawn0.step)⟩
                      case rest =>
                        clear HC15
                        try clear c1
                        try clear c2
                        try clear c2b0
                        try clear c2b1
                        try clear p2
                        try clear c4
                        try clear c4b0
                        try clear c5
                        try clear c7
                        try clear c7b0
                        try clear c7b1
                        try clear c8
                        try clear c8b0
                        try clear c8b1
                        try clear c9
                        try clear c9b0
                        try clear c9b1
                        try clear c10
                        try clear c12
                        try clear c12b0
                        try clear c12b1
                        try clear c13
                        try clear c13b0
                        try clear c13b1
                        try clear c14
                        try clear c16
                        try clear c16b0
                        try clear c16b1
                        try clear p2
                        obtain ⟨kq, x39_14, rfl, HA, HJ14, ⟨mc14, rfl⟩⟩ := hcut
                        cases kq with
                        | zero => exact absurd HA.out (by simp [cotterref03_form.j3])
                        | succ kj14 =>
                          have H := HA.out
                          clear HA
                          simp only [cotterref03_form.j3] at H
                          by_cases c17 : x39_14 = true
                          · subst c17
                            have H1 : (some 5) = some r := by rw [if_pos rfl] at H; exact H
                            clear H
                            have H := H1
                            clear H1
                            obtain rfl := Option.some.inj H
                            go_wp2
                            go_ret
                            exact ⟨by first | rfl | (simp; done) | (simp [*]; done), by repeat (first | exact Drawn0.refl _ | apply Drawn0.step)⟩
                          · replace c17 := Bool.eq_false_iff.mpr c17
                            subst c17
                            have H1 : (if a0 = 24 then (cotterref03_form.j4 kj14 a0 true) else (if a0 = 30 then (cotterref03_form.j4 kj14 a0 true) else (cotterref03_form.j4 kj14 a0 (a0 == 32)))) = some r := by rw [if_neg (show ¬ (false = true) by decide)] at H; exact H
                            clear H
                            have H := H1
                            clear H1
                            have HC18 := Aside0.mk H
                            clear H
                            go_upto_region 11 with (fail)
                            go_cut [46] (fun v46 wc => ∃ (kq : Nat) (x46_17 : Bool), v46 = .bool x46_17 ∧ Aside0 (cotterref03_form.j4 kq a0 x46_17 = some r) ∧ Aside0 (kq ≤ kj14) ∧ Drawn0 w wc)
                            case first =>
                              have H := HC18.out
                              clear HC18
                              by_cases c19 : a0 = 24
                              · rw [if_pos c19] at H
                                have c19b0 : (a0 == 24) = true := beq_iff_eq.mpr c19
                                have c19b1 : (a0 != 24) = false := bne_eq_false_iff_eq.mpr c19
                                clear c19
                                (first | rw [c19b0] | (simp only [i64_w, i32_w]; rw [c19b0]) | skip)
                                have H' := Aside0.mk H
                                clear H
                                go_wp2
                                go_meet
                                case rel => exact ⟨_, (true), (by first | rfl | (simp; done) | (simp [*]; done)), H', ⟨by have := HJ2.out; have := HJ5.out; have := HJ10.out; have := HJ14.out; first | omega | exact Nat.le_refl _⟩, by repeat (first | exact Drawn0.refl _ | apply Drawn0.step)⟩
                              · rw [if_neg c19] at H
                                have c19b0 : (a0 == 24) = false := beq_eq_false_iff_ne.mpr c19
                                have c19b1 : (a0 != 24) = true := bne_iff_ne.mpr c19
                                (first | rw [c19b0] | (simp only [i64_w, i32_w]; rw [c19b0]) | skip)
                                by_cases c20 : a0 = 30
                                · rw [if_pos c20] at H
                                  have c20b0 : (a0 == 30) = true := beq_iff_eq.mpr c20
                                  have c20b1 : (a0 != 30) = false := bne_eq_false_iff_eq.mpr c20
                                  clear c20
                                  have H' := Aside0.mk H
                                  clear H
                                  go_wp2
                                  go_meet
                                  case rel => exact ⟨_, (true), (by first | rfl | (simp; done) | (simp [*]; done)), H', ⟨by have := HJ2.out; have := HJ5.out; have := HJ10.out; have := HJ14.out; first | omega | exact Nat.le_refl _⟩, by repeat (first | exact Drawn0.refl _ | apply Drawn0.step)⟩
                                · rw [if_neg c20] at H
                                  have c20b0 : (a0 == 30) = false := beq_eq_false_iff_ne.mpr c20
                                  have c20b1 : (a0 != 30) = true := bne_iff_ne.mpr c20
                                  have H' := Aside0.mk H
                                  clear H
                                  go_wp2
                                  go_meet
                                  case rel => exact ⟨_, ((a0 == 32)), (by first | rfl | (simp; done) | (simp [*]; done)), H', ⟨by have := HJ2.out; have := HJ5.out; have := HJ10.out; have := HJ14.out; first | omega | exact Nat.le_refl _⟩, by repeat (first | exact Drawn0.refl _ | apply Drawn0.step)⟩
                            case rest =>
                              clear HC18
                              try clear c1
                              try clear c2
                              try clear c2b0
                              try clear c2b1
                              try clear p2
                              try clear c4
                              try clear c4b0
                              try clear c5
                              try clear c7
                              try clear c7b0
                              try clear c7b1
                              try clear c8
                              try clear c8b0
                              try clear c8b1
                              try clear c9
                              try clear c9b0
                              try clear c9b1
                              try clear c10
                              try clear c12
                              try clear c12b0
                              try clear c12b1
                              try clear c13
                              try clear c13b0
                              try clear c13b1
                              try clear c14
                              try clear c16
                              try clear c16b0
                              try clear c16b1
                              try clear c17
                              try clear c19
                              try clear c19b0
                              try clear c19b1
                              try clear c20
                              try clear c20b0
                              try clear c20b1
                              try clear p2
                              obtain ⟨kq, x46_17, rfl, HA, HJ17, ⟨mc17, rfl⟩⟩ := hcut
                              cases kq with
                              | zero => exact absurd HA.out (by simp [cotterref03_form.j4])
                              | succ kj17 =>
                                have H := HA.out
                                clear HA
                                simp only [cotterref03_form.j4] at H
                                by_cases c21 : x46_17 = true
                                · subst c21
                                  have H1 : (some 6) = some r := by rw [if_pos rfl] at H; exact H
                                  clear H
                                  have H := H1
                                  clear H1
                                  obtain rfl := Option.some.inj H
                                  go_wp2
                                  go_ret
                                  exact ⟨by first | rfl | (simp; done) | (simp [*]; done), by repeat (first | exact Drawn0.refl _ | apply Drawn0.step)⟩
                                · replace c21 := Bool.eq_false_iff.mpr c21
                                  subst c21
                                  have H1 : (if a0 = 25 then (some 7) else (if a0 = 26 then (cotterref03_form.j5 kj17 a0 true) else (cotterref03_form.j5 kj17 a0 (a0 == 27)))) = some r := by rw [if_neg (show ¬ (false = true) by decide)] at H; exact H
                                  clear H
                                  have H := H1
                                  clear H1
                                  by_cases c22 : a0 = 25
                                  · rw [if_pos c22] at H
                                    have c22b0 : (a0 == 25) = true := beq_iff_eq.mpr c22
                                    have c22b1 : (a0 != 25) = false := bne_eq_false_iff_eq.mpr c22
                                    clear c22
                                    obtain rfl := Option.some.inj H
                                    go_wp2
                                    go_ret
                                    exact ⟨by first | rfl | (simp; done) | (simp [*]; done), by repeat (first | exact Drawn0.refl _ | apply Drawn0.step)⟩
                                  · rw [if_neg c22] at H
                                    have c22b0 : (a0 == 25) = false := beq_eq_false_iff_ne.mpr c22
                                    have c22b1 : (a0 != 25) = true := bne_iff_ne.mpr c22
                                    have HC23 := Aside0.mk H
                                    clear H
                                    go_upto_region 15 with (fail)
                                    go_cut [60] (fun v60 wc => ∃ (kq : Nat) (x60_22 : Bool), v60 = .bool x60_22 ∧ Aside0 (cotterref03_form.j5 kq a0 x60_22 = some r) ∧ Aside0 (kq ≤ kj17) ∧ Drawn0 w wc)
                                    case first =>
                                      have H := HC23.out
                                      clear HC23
                                      by_cases c24 : a0 = 26
                                      · rw [if_pos c24] at H
                                        have c24b0 : (a0 == 26) = true := beq_iff_eq.mpr c24
                                        have c24b1 : (a0 != 26) = false := bne_eq_false_iff_eq.mpr c24
                                        clear c24
                                        (first | rw [c24b0] | (simp only [i64_w, i32_w]; rw [c24b0]) | skip)
                                        have H' := Aside0.mk H
                                        clear H
                                        go_wp2
                                        go_meet
                                        case rel => exact ⟨_, (true), (by first | rfl | (simp; done) | (simp [*]; done)), H', ⟨by have := HJ2.out; have := HJ5.out; have := HJ10.out; have := HJ14.out; have := HJ17.out; first | omega | exact Nat.le_refl _⟩, by repeat (first | exact Drawn0.refl _ | apply Drawn0.step)⟩
                                      · rw [if_neg c24] at H
                                        have c24b0 : (a0 == 26) = false := beq_eq_false_iff_ne.mpr c24
                                        have c24b1 : (a0 != 26) = true := bne_iff_ne.mpr c24
                                        (first | rw [c24b0] | (simp only [i64_w, i32_w]; rw [c24b0]) | skip)
                                        have H' := Aside0.mk H
                                        clear H
                                        go_wp2
                                        go_meet
                                        case rel => exact ⟨_, ((a0 == 27)), (by first | rfl | (simp; done) | (simp [*]; done)), H', ⟨by have := HJ2.out; have := HJ5.out; have := HJ10.out; have := HJ14.out; have := HJ17.out; first | omega | exact Nat.le_refl _⟩, by repeat (first | exact Drawn0.refl _ | apply Drawn0.step)⟩
                                    case rest =>
                                      clear HC23
                                      try clear c1
                                      try clear c2
                                      try clear c2b0
                                      try clear c2b1
                                      try clear p2
                                      try clear c4
                                      try clear c4b0
                                      try clear c5
                                      try clear c7
                                      try clear c7b0
                                      try clear c7b1
                                      try clear c8
                                      try clear c8b0
                                      try clear c8b1
                                      try clear c9
                                      try clear c9b0
                                      try clear c9b1
                                      try clear c10
                                      try clear c12
                                      try clear c12b0
                                      try clear c12b1
                                      try clear c13
                                      try clear c13b0
                                      try clear c13b1
                                      try clear c14
                                      try clear c16
                                      try clear c16b0
                                      try clear c16b1
                                      try clear c17
                                      try clear c19
                                      try clear c19b0
                                      try clear c19b1
                                      try clear c20
                                      try clear c20b0
                                      try clear c20b1
                                      try clear c21
                                      try clear c22
                                      try clear c22b0
                                      try clear c22b1
                                      try clear c24
                                      try clear c24b0
                                      try clear c24b1
                                      try clear p2
                                      obtain ⟨kq, x60_22, rfl, HA, HJ22, ⟨mc22, rfl⟩⟩ := hcut
                                      cases kq with
                                      | zero => exact absurd HA.out (by simp [cotterref03_form.j5])
                                      | succ kj22 =>
                                        have H := HA.out
                                        clear HA
                                        simp only [cotterref03_form.j5] at H
                                        by_cases c25 : x60_22 = true
                                        · subst c25
                                          have H1 : (some 8) = some r := by rw [if_pos rfl] at H; exact H
                                          clear H
                                          have H := H1
                                          clear H1
                                          obtain rfl := Option.some.inj H
                                          go_wp2
                                          go_ret
                                          exact ⟨by first | rfl | (simp; done) | (simp [*]; done), by repeat (first | exact Drawn0.refl _ | apply Drawn0.step)⟩
                                        · replace c25 := Bool.eq_false_iff.mpr c25
                                          subst c25
                                          have H1 : (if a0 = 31 then (some 9) else (if a0 = 33 then (some 10) else (some 0))) = some r := by rw [if_neg (show ¬ (false = true) by decide)] at H; exact H
                                          clear H
                                          have H := H1
                                          clear H1
                                          by_cases c26 : a0 = 31
                                          · rw [if_pos c26] at H
                                            have c26b0 : (a0 == 31) = true := beq_iff_eq.mpr c26
                                            have c26b1 : (a0 != 31) = false := bne_eq_false_iff_eq.mpr c26
                                            clear c26
                                            obtain rfl := Option.some.inj H
                                            go_wp2
                                            go_ret
                                            exact ⟨by first | rfl | (simp; done) | (simp [*]; done), by repeat (first | exact Drawn0.refl _ | apply Drawn0.step)⟩
                                          · rw [if_neg c26] at H
                                            have c26b0 : (a0 == 31) = false := beq_eq_false_iff_ne.mpr c26
                                            have c26b1 : (a0 != 31) = true := bne_iff_ne.mpr c26
                                            by_cases c27 : a0 = 33
                                            · rw [if_pos c27] at H
                                              have c27b0 : (a0 == 33) = true := beq_iff_eq.mpr c27
                                              have c27b1 : (a0 != 33) = false := bne_eq_false_iff_eq.mpr c27
                                              clear c27
                                              obtain rfl := Option.some.inj H
                                              go_wp2
                                              go_ret
                                              exact ⟨by first | rfl | (simp; done) | (simp [*]; done), by repeat (first | exact Drawn0.refl _ | apply Drawn0.step)⟩
                                            · rw [if_neg c27] at H
                                              have c27b0 : (a0 == 33) = false := beq_eq_false_iff_ne.mpr c27
                                              have c27b1 : (a0 != 33) = true := bne_iff_ne.mpr c27
                                              obtain rfl := Option.some.inj H
                                              go_wp2
                                              go_ret
                                              exact ⟨by first | rfl | (simp; done) | (simp [*]; done), by repeat (first | exact Drawn0.refl _ | apply Drawn0.step)⟩

end Go.Proofs.YtjlfjkpbooholaaDoor.M
