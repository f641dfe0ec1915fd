-- Written by a program of this session (wip/ownprint.py) over the translation. Lean checks it.
import Derived.Test.YtjlfjkpbooholaaDoorM0
import Derived.Test.YtjlfjkpbooholaaDoorM4
namespace Go.Proofs.YtjlfjkpbooholaaDoor.M
open Go.RowKit Go.Proofs.YtjlfjkpbooholaaDoorW.PrintWords Go.Proofs.YtjlfjkpbooholaaDoorW.PrintLast
set_option linter.unusedVariables false
set_option linter.unusedSimpArgs false

/-! ### cotterref03_parts: function 27 -/
def cotterref03_parts.j0 : Nat → Int → Bool → Option (Bool × Bool × Int)
  | 0, _, _ => none
  | k + 1, x5, x16 => if x16 = true then (some (false, false, 1)) else (if x5 = 8 then (some (true, false, 1)) else (if x5 = 9 then (some (true, false, 0)) else (some (false, false, 0))))
def cotterref03_parts.f (k : Nat) (a0 : Int) : Option (Bool × Bool × Int) := if a0 = 1 then (some (true, false, 8)) else (if a0 = 2 then (some (true, true, 0)) else (if a0 = 3 then (some (true, true, 4)) else (if a0 = 4 then (some (true, false, 4)) else (if a0 = 5 then (some (false, false, 4)) else (if a0 = 7 then (cotterref03_parts.j0 k a0 (a0 == 7)) else (cotterref03_parts.j0 k a0 (a0 == 10)))))))
theorem cotterref03_parts.mono_l : ∀ k, (∀ y0 y1, LeO (cotterref03_parts.j0 k y0 y1) (cotterref03_parts.j0 (k + 1) y0 y1))
  | 0 => fun _ _ r h => by simp [cotterref03_parts.j0] at h
  | k + 1 => by
    have ih0 := cotterref03_parts.mono_l k
    · intro y0 y1
      unfold cotterref03_parts.j0
      repeat' first
      | (with_reducible exact ih0 _ _)
      | (with_reducible exact LeO.refl _)
      | (with_reducible exact LeO.none _)
      | (with_reducible refine LeO.ite ?_ ?_)
      | (with_reducible refine LeO.bind ?_ (fun _ => ?_))
      | exact ih0 _ _
      | exact LeO.none _
      | refine LeO.ite ?_ ?_
      | refine LeO.bind ?_ (fun _ => ?_)
theorem cotterref03_parts.mono : ∀ a0 k, LeO (cotterref03_parts.f k a0) (cotterref03_parts.f (k + 1) a0) := by
  intro a0 k
  have ih0 := cotterref03_parts.mono_l k
  unfold cotterref03_parts.f
  repeat' first
      | (with_reducible exact ih0 _ _)
      | (with_reducible exact LeO.refl _)
      | (with_reducible exact LeO.none _)
      | (with_reducible refine LeO.ite ?_ ?_)
      | (with_reducible refine LeO.bind ?_ (fun _ => ?_))
      | exact ih0 _ _
      | exact LeO.none _
      | refine LeO.ite ?_ ?_
      | refine LeO.bind ?_ (fun _ => ?_)
set_option maxHeartbeats 8000000 in
set_option maxRecDepth 100000 in
theorem cotterref03_parts.calls (k : Nat) (a0 : Int) (r1 : Bool) (r2 : Bool) (r3 : Int) (w : World) (h : cotterref03_parts.f k a0 = some (r1, r2, r3)) :
    Calls Tryd.prog 27 #[.int .i64 a0] w fun e w' => e = .returned (.tuple #[.bool r1, .bool r2, .int .i64 r3]) ∧ Drawn0 w w' := by
  have H : (if a0 = 1 then (some (true, false, 8)) else (if a0 = 2 then (some (true, true, 0)) else (if a0 = 3 then (some (true, true, 4)) else (if a0 = 4 then (some (true, false, 4)) else (if a0 = 5 then (some (false, false, 4)) else (if a0 = 7 then (cotterref03_parts.j0 k a0 (a0 == 7)) else (cotterref03_parts.j0 k a0 (a0 == 10)))))))) = some (r1, r2, r3) := h
  clear h
  by_cases c2 : a0 = 1
  · rw [if_pos c2] at H
    have c2b0 : (a0 == 1) = true := beq_iff_eq.mpr c2
    have c2b1 : (a0 != 1) = false := bne_eq_false_iff_eq.mpr c2
    clear c2
    simp only [Option.some.injEq, Prod.mk.injEq] at H
    obtain ⟨rfl, rfl, rfl⟩ := H
    go_enter Tryd.func27, Tryd.ntmps27
    go_wp2
    go_ret3
    exact ⟨by first | rfl | (simp; done) | (simp [*]; done), by repeat (first | exact Drawn0.refl _ | apply Drawn0.step)⟩
  · rw [if_neg c2] at H
    have c2b0 : (a0 == 1) = false := beq_eq_false_iff_ne.mpr c2
    have c2b1 : (a0 != 1) = true := bne_iff_ne.mpr c2
    by_cases c3 : a0 = 2
    · rw [if_pos c3] at H
      have c3b0 : (a0 == 2) = true := beq_iff_eq.mpr c3
      have c3b1 : (a0 != 2) = false := bne_eq_false_iff_eq.mpr c3
      clear c3
      simp only [Option.some.injEq, Prod.mk.injEq] at H
      obtain ⟨rfl, rfl, rfl⟩ := H
      go_enter Tryd.func27, Tryd.ntmps27
      go_wp2
      go_ret3
      exact ⟨by first | rfl | (simp; done) | (simp [*]; done), by repeat (first | exact Drawn0.refl _ | apply Drawn0.step)⟩
    · rw [if_neg c3] at H
      have c3b0 : (a0 == 2) = false := beq_eq_false_iff_ne.mpr c3
      have c3b1 : (a0 != 2) = true := bne_iff_ne.mpr c3
      by_cases c4 : a0 = 3
      · rw [if_pos c4] at H
        have c4b0 : (a0 == 3) = true := beq_iff_eq.mpr c4
        have c4b1 : (a0 != 3) = false := bne_eq_false_iff_eq.mpr c4
        clear c4
        simp only [Option.some.injEq, Prod.mk.injEq] at H
        obtain ⟨rfl, rfl, rfl⟩ := H
        go_enter Tryd.func27, Tryd.ntmps27
        go_wp2
        go_ret3
        exact ⟨by first | rfl | (simp; done) | (simp [*]; done), by repeat (first | exact Drawn0.refl _ | apply Drawn0.step)⟩
      · rw [if_neg c4] at H
        have c4b0 : (a0 == 3) = false := beq_eq_false_iff_ne.mpr c4
        have c4b1 : (a0 != 3) = true := bne_iff_ne.mpr c4
        by_cases c5 : a0 = 4
        · rw [if_pos c5] at H
          have c5b0 : (a0 == 4) = true := beq_iff_eq.mpr c5
          have c5b1 : (a0 != 4) = false := bne_eq_false_iff_eq.mpr c5
          clear c5
          simp only [Option.some.injEq, Prod.mk.injEq] at H
          obtain ⟨rfl, rfl, rfl⟩ := H
          go_enter Tryd.func27, Tryd.ntmps27
          go_wp2
          go_ret3
          exact ⟨by first | rfl | (simp; done) | (simp [*]; done), by repeat (first | exact Drawn0.refl _ | apply Drawn0.step)⟩
        · rw [if_neg c5] at H
          have c5b0 : (a0 == 4) = false := beq_eq_false_iff_ne.mpr c5
          have c5b1 : (a0 != 4) = true := bne_iff_ne.mpr c5
          by_cases c6 : a0 = 5
          · rw [if_pos c6] at H
            have c6b0 : (a0 == 5) = true := beq_iff_eq.mpr c6
            have c6b1 : (a0 != 5) = false := bne_eq_false_iff_eq.mpr c6
            clear c6
            simp only [Option.some.injEq, Prod.mk.injEq] at H
            obtain ⟨rfl, rfl, rfl⟩ := H
            go_enter Tryd.func27, Tryd.ntmps27
            go_wp2
            go_ret3
            exact ⟨by first | rfl | (simp; done) | (simp [*]; done), by repeat (first | exact Drawn0.refl _ | apply Drawn0.step)⟩
          · rw [if_neg c6] at H
            have c6b0 : (a0 == 5) = false := beq_eq_false_iff_ne.mpr c6
            have c6b1 : (a0 != 5) = true := bne_iff_ne.mpr c6
            have HC7 := Aside0.mk H
            clear H
            go_enter Tryd.func27, Tryd.ntmps27
            go_upto_if 16 with (fail)
            go_cut [16] (fun v16 wc => ∃ (kq : Nat) (x16_6 : Bool), v16 = .bool x16_6 ∧ Aside0 (cotterref03_parts.j0 kq a0 x16_6 = some (r1, r2, r3)) ∧ Aside0 (kq ≤ k) ∧ Drawn0 w wc)
            case first =>
              have H := HC7.out
              clear HC7
              by_cases c8 : a0 = 7
              · rw [if_pos c8] at H
                have c8b0 : (a0 == 7) = true := beq_iff_eq.mpr c8
                have c8b1 : (a0 != 7) = false := bne_eq_false_iff_eq.mpr c8
                clear c8
                (first | rw [c8b0] | (simp only [i64_w, i32_w]; rw [c8b0]) | skip)
                have H' := Aside0.mk H
                clear H
                go_wp2
                go_meet
                case rel => exact ⟨_, ((a0 == 7)), (by first | rfl | (simp; done) | (simp [*]; done)), H', ⟨by first | omega | exact Nat.le_refl _⟩, by repeat (first | exact Drawn0.refl _ | apply Drawn0.step)⟩
              · rw [if_neg c8] at H
                have c8b0 : (a0 == 7) = false := beq_eq_false_iff_ne.mpr c8
                have c8b1 : (a0 != 7) = true := bne_iff_ne.mpr c8
                (first | rw [c8b0] | (simp only [i64_w, i32_w]; rw [c8b0]) | skip)
                have H' := Aside0.mk H
                clear H
                go_wp2
                go_meet
                case rel => exact ⟨_, ((a0 == 10)), (by first | rfl | (simp; done) | (simp [*]; done)), H', ⟨by first | omega | exact Nat.le_refl _⟩, by repeat (first | exact Drawn0.refl _ | apply Drawn0.step)⟩
            case rest =>
              clear HC7
              try clear c2
              try clear c2b0
              try clear c2b1
              try clear p2
              try clear c3
              try clear c3b0
              try clear c3b1
              try clear c4
              try clear c4b0
              try clear c4b1
              try clear c5
              try clear c5b0
              try clear c5b1
              try clear c6
              try clear c6b0
              try clear c6b1
              try clear c8
              try clear c8b0
              try clear c8b1
              obtain ⟨kq, x16_6, rfl, HA, HJ6, ⟨mc6, rfl⟩⟩ := hcut
              cases kq with
              | zero => exact absurd HA.out (by simp [cotterref03_parts.j0])
              | succ kj6 =>
                have H := HA.out
                clear HA
                simp only [cotterref03_parts.j0] at H
                by_cases c9 : x16_6 = true
                · subst c9
                  have H1 : (some (false, false, 1)) = some (r1, r2, r3) := by rw [if_pos rfl] at H; exact H
                  clear H
                  have H := H1
                  clear H1
                  simp only [Option.some.injEq, Prod.mk.injEq] at H
                  obtain ⟨rfl, rfl, rfl⟩ := H
                  go_wp2
                  go_ret3
                  exact ⟨by first | rfl | (simp; done) | (simp [*]; done), by repeat (first | exact Drawn0.refl _ | apply Drawn0.step)⟩
                · replace c9 := Bool.eq_false_iff.mpr c9
                  subst c9
                  have H1 : (if a0 = 8 then (some (true, false, 1)) else (if a0 = 9 then (some (true, false, 0)) else (some (false, false, 0)))) = some (r1, r2, r3) := by rw [if_neg (show ¬ (false = true) by decide)] at H; exact H
                  clear H
                  have H := H1
                  clear H1
                  by_cases c10 : a0 = 8
                  · rw [if_pos c10] at H
                    have c10b0 : (a0 == 8) = true := beq_iff_eq.mpr c10
                    have c10b1 : (a0 != 8) = false := bne_eq_false_iff_eq.mpr c10
                    clear c10
                    simp only [Option.some.injEq, Prod.mk.injEq] at H
                    obtain ⟨rfl, rfl, rfl⟩ := H
                    go_wp2
                    go_ret3
                    exact ⟨by first | rfl | (simp; done) | (simp [*]; done), by repeat (first | exact Drawn0.refl _ | apply Drawn0.step)⟩
                  · rw [if_neg c10] at H
                    have c10b0 : (a0 == 8) = false := beq_eq_false_iff_ne.mpr c10
                    have c10b1 : (a0 != 8) = true := bne_iff_ne.mpr c10
                    by_cases c11 : a0 = 9
                    · rw [if_pos c11] at H
                      have c11b0 : (a0 == 9) = true := beq_iff_eq.mpr c11
                      have c11b1 : (a0 != 9) = false := bne_eq_false_iff_eq.mpr c11
                      clear c11
                      simp only [Option.some.injEq, Prod.mk.injEq] at H
                      obtain ⟨rfl, rfl, rfl⟩ := H
                      go_wp2
                      go_ret3
                      exact ⟨by first | rfl | (simp; done) | (simp [*]; done), by repeat (first | exact Drawn0.refl _ | apply Drawn0.step)⟩
                    · rw [if_neg c11] at H
                      have c11b0 : (a0 == 9) = false := beq_eq_false_iff_ne.mpr c11
                      have c11b1 : (a0 != 9) = true := bne_iff_ne.mpr c11
                      simp only [Option.some.injEq, Prod.mk.injEq] at H
                      obtain ⟨rfl, rfl, rfl⟩ := H
                      go_wp2
                      go_ret3
                      exact ⟨by first | rfl | (simp; done) | (simp [*]; done), by repeat (first | exact Drawn0.refl _ | apply Drawn0.step)⟩

/-! ### cotterref03_Size: function 19 -/
def cotterref03_Size.f (k : Nat) (a0 : Int) : Option (Int) := (cotterref03_form.f k a0).bind fun t112 => (if t112 = 0 then (some 0) else ((cotterref03_parts.f k t112).bind fun bt113 => (if bt113.1 = true then (some (wrap64 (1 + (wrap64 (bt113.2.2 + 1))))) else (some (wrap64 (1 + bt113.2.2))))))
theorem cotterref03_Size.mono : ∀ a0 k, LeO (cotterref03_Size.f k a0) (cotterref03_Size.f (k + 1) a0) := by
  intro a0 k
  unfold cotterref03_Size.f
  repeat' first
      | (with_reducible exact cotterref03_form.mono _ _)
      | (with_reducible exact cotterref03_parts.mono _ _)
      | (with_reducible exact LeO.refl _)
      | (with_reducible exact LeO.none _)
      | (with_reducible refine LeO.ite ?_ ?_)
      | (with_reducible refine LeO.bind ?_ (fun _ => ?_))
      | exact cotterref03_form.mono _ _
      | exact cotterref03_parts.mono _ _
      | exact LeO.none _
      | refine LeO.ite ?_ ?_
      | refine LeO.bind ?_ (fun _ => ?_)
set_option maxHeartbeats 8000000 in
set_option maxRecDepth 100000 in
theorem cotterref03_Size.calls (k : Nat) (a0 : Int) (r : Int) (w : World) (h : cotterref03_Size.f k a0 = some r) :
    Calls Tryd.prog 19 #[.int .i64 a0] w fun e w' => e = .returned (.int .i64 r) ∧ Drawn0 w w' := by
  have H : ((cotterref03_form.f k a0).bind fun t112 => (if t112 = 0 then (some 0) else ((cotterref03_parts.f k t112).bind fun bt113 => (if bt113.1 = true then (some (wrap64 (1 + (wrap64 (bt113.2.2 + 1))))) else (some (wrap64 (1 + bt113.2.2))))))) = some r := h
  clear h
  replace H := Option.bind_eq_some_iff.mp H
  obtain ⟨t112, A20, H⟩ := H
  replace H : (if t112 = 0 then (some 0) else ((cotterref03_parts.f k t112).bind fun bt113 => (if bt113.1 = true then (some (wrap64 (1 + (wrap64 (bt113.2.2 + 1))))) else (some (wrap64 (1 + bt113.2.2)))))) = some r := H
  have A2 := Aside0.mk A20
  clear A20
  by_cases c3 : t112 = 0
  · rw [if_pos c3] at H
    have c3b0 : (t112 == 0) = true := beq_iff_eq.mpr c3
    have c3b1 : (t112 != 0) = false := bne_eq_false_iff_eq.mpr c3
    clear c3
    obtain rfl := Option.some.inj H
    go_enter Tryd.func19, Tryd.ntmps19
    go_wp2_with (first | ((with_reducible refine gate_callee (f := 26) rfl ?_); refine goesL_ (some 8) rfl rfl Tryd.func26 (by kernel_rfl) rfl #[.int .i64 a0] rfl (by (try simp only [List.map_toArray, List.map_cons, List.map_nil]); first | done | rfl | (simp only [List.length_drop, List.length_take]; rfl)) ?_; (with_reducible refine (cotterref03_form.calls k a0 t112 _ A2.out).mono ?_); rintro e w' ⟨rfl, ⟨nd, rfl⟩⟩; refine ⟨_, rfl, ?_⟩))
    go_ret
    exact ⟨by first | rfl | (simp; done) | (simp [*]; done), by repeat (first | exact Drawn0.refl _ | apply Drawn0.step)⟩
  · rw [if_neg c3] at H
    have c3b0 : (t112 == 0) = false := beq_eq_false_iff_ne.mpr c3
    have c3b1 : (t112 != 0) = true := bne_iff_ne.mpr c3
    replace H := Option.bind_eq_some_iff.mp H
    obtain ⟨⟨t113, t114, t115⟩, A40, H⟩ := H
    replace H : (if t113 = true then (some (wrap64 (1 + (wrap64 (t115 + 1))))) else (some (wrap64 (1 + t115)))) = some r := H
    have A4 := Aside0.mk A40
    clear A40
    by_cases c5 : t113 = true
    · subst c5
      have H1 : (some (wrap64 (1 + (wrap64 (t115 + 1))))) = some r := by rw [if_pos rfl] at H; exact H
      clear H
      have H := H1
      clear H1
      obtain rfl := Option.some.inj H
      go_enter Tryd.func19, Tryd.ntmps19
      go_wp2_with (first | ((with_reducible refine gate_callee (f := 26) rfl ?_); refine goesL_ (some 8) rfl rfl Tryd.func26 (by kernel_rfl) rfl #[.int .i64 a0] rfl (by (try simp only [List.map_toArray, List.map_cons, List.map_nil]); first | done | rfl | (simp only [List.length_drop, List.length_take]; rfl)) ?_; (with_reducible refine (cotterref03_form.calls k a0 t112 _ A2.out).mono ?_); rintro e w' ⟨rfl, ⟨nd, rfl⟩⟩; refine ⟨_, rfl, ?_⟩) | ((with_reducible refine gate_callee (f := 27) rfl ?_); refine goesL_ (some 13) rfl rfl Tryd.func27 (by kernel_rfl) rfl #[.int .i64 t112] rfl (by (try simp only [List.map_toArray, List.map_cons, List.map_nil]); first | done | rfl | (simp only [List.length_drop, List.length_take]; rfl)) ?_; (with_reducible refine (cotterref03_parts.calls k t112 true t114 t115 _ A4.out).mono ?_); rintro e w' ⟨rfl, ⟨nd, rfl⟩⟩; refine ⟨_, rfl, ?_⟩))
      go_ret
      exact ⟨by first | rfl | (simp; done) | (simp [*]; done), by repeat (first | exact Drawn0.refl _ | apply Drawn0.step)⟩
    · replace c5 := Bool.eq_false_iff.mpr c5
      subst c5
      have H1 : (some (wrap64 (1 + t115))) = some r := by rw [if_neg (show ¬ (false = true) by decide)] at H; exact H
      clear H
      have H := H1
      clear H1
      obtain rfl := Option.some.inj H
      go_enter Tryd.func19, Tryd.ntmps19
      go_wp2_with (first | ((with_reducible refine gate_callee (f := 26) rfl ?_); refine goesL_ (some 8) rfl rfl Tryd.func26 (by kernel_rfl) rfl #[.int .i64 a0] rfl (by (try simp only [List.map_toArray, List.map_cons, List.map_nil]); first | done | rfl | (simp only [List.length_drop, List.length_take]; rfl)) ?_; (with_reducible refine (cotterref03_form.calls k a0 t112 _ A2.out).mono ?_); rintro e w' ⟨rfl, ⟨nd, rfl⟩⟩; refine ⟨_, rfl, ?_⟩) | ((with_reducible refine gate_callee (f := 27) rfl ?_); refine goesL_ (some 13) rfl rfl Tryd.func27 (by kernel_rfl) rfl #[.int .i64 t112] rfl (by (try simp only [List.map_toArray, List.map_cons, List.map_nil]); first | done | rfl | (simp only [List.length_drop, List.length_take]; rfl)) ?_; (with_reducible refine (cotterref03_parts.calls k t112 false t114 t115 _ A4.out).mono ?_); rintro e w' ⟨rfl, ⟨nd, rfl⟩⟩; refine ⟨_, rfl, ?_⟩))
      go_ret
      exact ⟨by first | rfl | (simp; done) | (simp [*]; done), by repeat (first | exact Drawn0.refl _ | apply Drawn0.step)⟩

/-! ### cotterref01_quotient: function 28 -/
def cotterref01_quotient.f (a0 : Int) (a1 : Int) (a2 : Int) : Option (Int × Int) := if a2 = 0 then (some (0, 10)) else (if a2 = (-1) then (if a0 = 6 then (some (wrap64 (-a1), 0)) else (some (wrap64 (a1 - (wrap64 ((wrap64 (-a1)) * a2))), 0))) else (if a0 = 6 then (some (wrap64 (Int.tdiv a1 a2), 0)) else (some (wrap64 (a1 - (wrap64 ((wrap64 (Int.tdiv a1 a2)) * a2))), 0))))
set_option maxHeartbeats 8000000 in
set_option maxRecDepth 100000 in
theorem cotterref01_quotient.calls (a0 : Int) (a1 : Int) (a2 : Int) (r1 : Int) (r2 : Int) (w : World) (h : cotterref01_quotient.f a0 a1 a2 = some (r1, r2)) :
    Calls Tryd.prog 28 #[.int .i64 a0, .int .i64 a1, .int .i64 a2] w fun e w' => e = .returned (.tuple #[.int .i64 r1, .int .i64 r2]) ∧ Drawn0 w w' := by
  have H : (if a2 = 0 then (some (0, 10)) else (if a2 = (-1) then (if a0 = 6 then (some (wrap64 (-a1), 0)) else (some (wrap64 (a1 - (wrap64 ((wrap64 (-a1)) * a2))), 0))) else (if a0 = 6 then (some (wrap64 (Int.tdiv a1 a2), 0)) else (some (wrap64 (a1 - (wrap64 ((wrap64 (Int.tdiv a1 a2)) * a2))), 0))))) = some (r1, r2) := h
  clear h
  by_cases c4 : a2 = 0
  · rw [if_pos c4] at H
    have c4b0 : (a2 == 0) = true := beq_iff_eq.mpr c4
    have c4b1 : (a2 != 0) = false := bne_eq_false_iff_eq.mpr c4
    clear c4
    simp only [Option.some.injEq, Prod.mk.injEq] at H
    obtain ⟨rfl, rfl⟩ := H
    go_enter Tryd.func28, Tryd.ntmps28
    go_wp2
    go_ret2
    exact ⟨by first | rfl | (simp; done) | (simp [*]; done), by repeat (first | exact Drawn0.refl _ | apply Drawn0.step)⟩
  · rw [if_neg c4] at H
    have c4b0 : (a2 == 0) = false := beq_eq_false_iff_ne.mpr c4
    have c4b1 : (a2 != 0) = true := bne_iff_ne.mpr c4
    by_cases c5 : a2 = (-1)
    · rw [if_pos c5] at H
      have c5b0 : (a2 == (-1)) = true := beq_iff_eq.mpr c5
      have c5b1 : (a2 != (-1)) = false := bne_eq_false_iff_eq.mpr c5
      clear c5
      by_cases c6 : a0 = 6
      · rw [if_pos c6] at H
        have c6b0 : (a0 == 6) = true := beq_iff_eq.mpr c6
        have c6b1 : (a0 != 6) = false := bne_eq_false_iff_eq.mpr c6
        clear c6
        simp only [Option.some.injEq, Prod.mk.injEq] at H
        obtain ⟨rfl, rfl⟩ := H
        go_enter Tryd.func28, Tryd.ntmps28
        go_wp2
        go_ret2
        exact ⟨by first | rfl | (simp; done) | (simp [*]; done), by repeat (first | exact Drawn0.refl _ | apply Drawn0.step)⟩
      · rw [if_neg c6] at H
        have c6b0 : (a0 == 6) = false := beq_eq_false_iff_ne.mpr c6
        have c6b1 : (a0 != 6) = true := bne_iff_ne.mpr c6
        simp only [Option.some.injEq, Prod.mk.injEq] at H
        obtain ⟨rfl, rfl⟩ := H
        go_enter Tryd.func28, Tryd.ntmps28
        go_wp2
        go_ret2
        exact ⟨by first | rfl | (simp; done) | (simp [*]; done), by repeat (first | exact Drawn0.refl _ | apply Drawn0.step)⟩
    · rw [if_neg c5] at H
      have c5b0 : (a2 == (-1)) = false := beq_eq_false_iff_ne.mpr c5
      have c5b1 : (a2 != (-1)) = true := bne_iff_ne.mpr c5
      by_cases c7 : a0 = 6
      · rw [if_pos c7] at H
        have c7b0 : (a0 == 6) = true := beq_iff_eq.mpr c7
        have c7b1 : (a0 != 6) = false := bne_eq_false_iff_eq.mpr c7
        clear c7
        simp only [Option.some.injEq, Prod.mk.injEq] at H
        obtain ⟨rfl, rfl⟩ := H
        go_enter Tryd.func28, Tryd.ntmps28
        go_wp2
        go_ret2
        exact ⟨by first | rfl | (simp; done) | (simp [*]; done), by repeat (first | exact Drawn0.refl _ | apply Drawn0.step)⟩
      · rw [if_neg c7] at H
        have c7b0 : (a0 == 6) = false := beq_eq_false_iff_ne.mpr c7
        have c7b1 : (a0 != 6) = true := bne_iff_ne.mpr c7
        simp only [Option.some.injEq, Prod.mk.injEq] at H
        obtain ⟨rfl, rfl⟩ := H
        go_enter Tryd.func28, Tryd.ntmps28
        go_wp2
        go_ret2
        exact ⟨by first | rfl | (simp; done) | (simp [*]; done), by repeat (first | exact Drawn0.refl _ | apply Drawn0.step)⟩

/-! ### cotterref01_truth: function 29 -/
def cotterref01_truth.f (a0 : Bool) : Option (Int) := if a0 = true then (some 1) else (some 0)
set_option maxHeartbeats 8000000 in
set_option maxRecDepth 100000 in
theorem cotterref01_truth.calls (a0 : Bool) (r : Int) (w : World) (h : cotterref01_truth.f a0 = some r) :
    Calls Tryd.prog 29 #[.bool a0] w fun e w' => e = .returned (.int .i64 r) ∧ Drawn0 w w' := by
  have H : (if a0 = true then (some 1) else (some 0)) = some r := h
  clear h
  by_cases c2 : a0 = true
  · subst c2
    have H1 : (some 1) = some r := by rw [if_pos rfl] at H; exact H
    clear H
    have H := H1
    clear H1
    obtain rfl := Option.some.inj H
    go_enter Tryd.func29, Tryd.ntmps29
    go_wp2
    go_ret
    exact ⟨by first | rfl | (simp; done) | (simp [*]; done), by repeat (first | exact Drawn0.refl _ | apply Drawn0.step)⟩
  · replace c2 := Bool.eq_false_iff.mpr c2
    subst c2
    have H1 : (some 0) = some r := by rw [if_neg (show ¬ (false = true) by decide)] at H; exact H
    clear H
    have H := H1
    clear H1
    obtain rfl := Option.some.inj H
    go_enter Tryd.func29, Tryd.ntmps29
    go_wp2
    go_ret
    exact ⟨by first | rfl | (simp; done) | (simp [*]; done), by repeat (first | exact Drawn0.refl _ | apply Drawn0.step)⟩

end Go.Proofs.YtjlfjkpbooholaaDoor.M
