-- Written by a program of this session (wip/ownprint.py) over the translation. Lean checks it.
import Derived.Test.YtjlfjkpbooholaaDoorM0
import Derived.Test.YtjlfjkpbooholaaDoorM2
namespace Go.Proofs.YtjlfjkpbooholaaDoor.M
open Go.RowKit Go.Proofs.YtjlfjkpbooholaaDoorW.PrintWords Go.Proofs.YtjlfjkpbooholaaDoorW.PrintLast
set_option linter.unusedVariables false
set_option linter.unusedSimpArgs false

/-! ### word_Bin: function 18 -/
def word_Bin.j0 : Nat → Int → Int → Int → Int → Bool → Option (Int × Int)
  | 0, _, _, _, _, _ => none
  | k + 1, x0, x1, x2, x8, x24 => if x24 = true then ((word_divide.f k x0 x1 x2).bind fun bt106 => (some (bt106.1, bt106.2))) else (if x8 = 8 then (some (Go.bits .and .i64 x1 x2, 0)) else (if x8 = 9 then (some (Go.bits .or .i64 x1 x2, 0)) else (if x8 = 10 then (some (Go.bits .xor .i64 x1 x2, 0)) else (if x8 = 11 then (if 0 ≤ (Go.bits .and .i64 x2 63) then (some (shl .i64 x1 (Go.bits .and .i64 x2 63), 0)) else (none)) else (if x8 = 12 then (if 0 ≤ (Go.bits .and .i64 x2 63) then (some (shr .i64 x1 (Go.bits .and .i64 x2 63), 0)) else (none)) else (if x8 = 13 then ((word_flag.f (x1 == x2)).bind fun t108 => (some (t108, 0))) else (if x8 = 14 then ((word_flag.f (x1 != x2)).bind fun t109 => (some (t109, 0))) else (if x8 = 15 then ((word_flag.f (decide (x1 < x2))).bind fun t110 => (some (t110, 0))) else (if x8 = 16 then ((word_flag.f (decide (x1 ≤ x2))).bind fun t111 => (some (t111, 0))) else (some (0, 1)))))))))))
def word_Bin.f (k : Nat) (a0 : Int) (a1 : Int) (a2 : Int) : Option (Int × Int) := if a0 = 3 then (some (wrap64 (a1 + a2), 0)) else (if a0 = 4 then (some (wrap64 (a1 - a2), 0)) else (if a0 = 5 then (some (wrap64 (a1 * a2), 0)) else (if a0 = 6 then (word_Bin.j0 k a0 a1 a2 a0 (a0 == 6)) else (word_Bin.j0 k a0 a1 a2 a0 (a0 == 7)))))
theorem word_Bin.mono_l : ∀ k, (∀ y0 y1 y2 y3 y4, LeO (word_Bin.j0 k y0 y1 y2 y3 y4) (word_Bin.j0 (k + 1) y0 y1 y2 y3 y4))
  | 0 => fun _ _ _ _ _ r h => by simp [word_Bin.j0] at h
  | k + 1 => by
    have ih0 := word_Bin.mono_l k
    · intro y0 y1 y2 y3 y4
      unfold word_Bin.j0
      repeat' first
      | (with_reducible exact ih0 _ _ _ _ _)
      | (with_reducible exact word_divide.mono _ _ _ _)
      | (with_reducible exact LeO.refl _)
      | (with_reducible exact LeO.none _)
      | (with_reducible refine LeO.ite ?_ ?_)
      | (with_reducible refine LeO.bind ?_ (fun _ => ?_))
      | exact ih0 _ _ _ _ _
      | exact word_divide.mono _ _ _ _
      | exact LeO.none _
      | refine LeO.ite ?_ ?_
      | refine LeO.bind ?_ (fun _ => ?_)
theorem word_Bin.mono : ∀ a0 a1 a2 k, LeO (word_Bin.f k a0 a1 a2) (word_Bin.f (k + 1) a0 a1 a2) := by
  intro a0 a1 a2 k
  have ih0 := word_Bin.mono_l k
  unfold word_Bin.f
  repeat' first
      | (with_reducible exact ih0 _ _ _ _ _)
      | (with_reducible exact word_divide.mono _ _ _ _)
      | (with_reducible exact LeO.refl _)
      | (with_reducible exact LeO.none _)
      | (with_reducible refine LeO.ite ?_ ?_)
      | (with_reducible refine LeO.bind ?_ (fun _ => ?_))
      | exact ih0 _ _ _ _ _
      | exact word_divide.mono _ _ _ _
      | exact LeO.none _
      | refine LeO.ite ?_ ?_
      | refine LeO.bind ?_ (fun _ => ?_)
set_option maxHeartbeats 8000000 in
set_option maxRecDepth 100000 in
theorem word_Bin.calls (k : Nat) (a0 : Int) (a1 : Int) (a2 : Int) (r1 : Int) (r2 : Int) (w : World) (h : word_Bin.f k a0 a1 a2 = some (r1, r2)) :
    Calls Tryd.prog 18 #[.int .i64 a0, .int .i64 a1, .int .i64 a2] w fun e w' => e = .returned (.tuple #[.int .i64 r1, .int .i64 r2]) ∧ Drawn0 w w' := by
  have H : (if a0 = 3 then (some (wrap64 (a1 + a2), 0)) else (if a0 = 4 then (some (wrap64 (a1 - a2), 0)) else (if a0 = 5 then (some (wrap64 (a1 * a2), 0)) else (if a0 = 6 then (word_Bin.j0 k a0 a1 a2 a0 (a0 == 6)) else (word_Bin.j0 k a0 a1 a2 a0 (a0 == 7)))))) = some (r1, r2) := h
  clear h
  by_cases c4 : a0 = 3
  · rw [if_pos c4] at H
    have c4b0 : (a0 == 3) = true := beq_iff_eq.mpr c4
    have c4b1 : (a0 != 3) = false := bne_eq_false_iff_eq.mpr c4
    clear c4
    simp only [Option.some.injEq, Prod.mk.injEq] at H
    obtain ⟨rfl, rfl⟩ := H
    go_enter Tryd.func18, Tryd.ntmps18
    go_wp2
    go_ret2
    exact ⟨by first | rfl | (simp; done) | (simp [*]; done), by repeat (first | exact Drawn0.refl _ | apply Drawn0.step)⟩
  · rw [if_neg c4] at H
    have c4b0 : (a0 == 3) = false := beq_eq_false_iff_ne.mpr c4
    have c4b1 : (a0 != 3) = true := bne_iff_ne.mpr c4
    by_cases c5 : a0 = 4
    · rw [if_pos c5] at H
      have c5b0 : (a0 == 4) = true := beq_iff_eq.mpr c5
      have c5b1 : (a0 != 4) = false := bne_eq_false_iff_eq.mpr c5
      clear c5
      simp only [Option.some.injEq, Prod.mk.injEq] at H
      obtain ⟨rfl, rfl⟩ := H
      go_enter Tryd.func18, Tryd.ntmps18
      go_wp2
      go_ret2
      exact ⟨by first | rfl | (simp; done) | (simp [*]; done), by repeat (first | exact Drawn0.refl _ | apply Drawn0.step)⟩
    · rw [if_neg c5] at H
      have c5b0 : (a0 == 4) = false := beq_eq_false_iff_ne.mpr c5
      have c5b1 : (a0 != 4) = true := bne_iff_ne.mpr c5
      by_cases c6 : a0 = 5
      · rw [if_pos c6] at H
        have c6b0 : (a0 == 5) = true := beq_iff_eq.mpr c6
        have c6b1 : (a0 != 5) = false := bne_eq_false_iff_eq.mpr c6
        clear c6
        simp only [Option.some.injEq, Prod.mk.injEq] at H
        obtain ⟨rfl, rfl⟩ := H
        go_enter Tryd.func18, Tryd.ntmps18
        go_wp2
        go_ret2
        exact ⟨by first | rfl | (simp; done) | (simp [*]; done), by repeat (first | exact Drawn0.refl _ | apply Drawn0.step)⟩
      · rw [if_neg c6] at H
        have c6b0 : (a0 == 5) = false := beq_eq_false_iff_ne.mpr c6
        have c6b1 : (a0 != 5) = true := bne_iff_ne.mpr c6
        have HC7 := Aside0.mk H
        clear H
        go_enter Tryd.func18, Tryd.ntmps18
        go_upto_if 24 with (fail)
        go_cut [24] (fun v24 wc => ∃ (kq : Nat) (x24_6 : Bool), v24 = .bool x24_6 ∧ Aside0 (word_Bin.j0 kq a0 a1 a2 a0 x24_6 = some (r1, r2)) ∧ Aside0 (kq ≤ k) ∧ Drawn0 w wc)
        case first =>
          have H := HC7.out
          clear HC7
          by_cases c8 : a0 = 6
          · rw [if_pos c8] at H
            have c8b0 : (a0 == 6) = true := beq_iff_eq.mpr c8
            have c8b1 : (a0 != 6) = false := bne_eq_false_iff_eq.mpr c8
            clear c8
            (first | rw [c8b0] | (simp only [i64_w, i32_w]; rw [c8b0]) | skip)
            have H' := Aside0.mk H
            clear H
            go_wp2
            go_meet
            case rel => exact ⟨_, ((a0 == 6)), (by first | rfl | (simp; done) | (simp [*]; done)), H', ⟨by first | omega | exact Nat.le_refl _⟩, by repeat (first | exact Drawn0.refl _ | apply Drawn0.step)⟩
          · rw [if_neg c8] at H
            have c8b0 : (a0 == 6) = false := beq_eq_false_iff_ne.mpr c8
            have c8b1 : (a0 != 6) = true := bne_iff_ne.mpr c8
            (first | rw [c8b0] | (simp only [i64_w, i32_w]; rw [c8b0]) | skip)
            have H' := Aside0.mk H
            clear H
            go_wp2
            go_meet
            case rel => exact ⟨_, ((a0 == 7)), (by first | rfl | (simp; done) | (simp [*]; done)), H', ⟨by first | omega | exact Nat.le_refl _⟩, by repeat (first | exact Drawn0.refl _ | apply Drawn0.step)⟩
        case rest =>
          clear HC7
          try clear c1
          try clear p2
          try clear c4
          try clear c4b0
          try clear c4b1
          try clear c5
          try clear c5b0
          try clear c5b1
          try clear c6
          try clear c6b0
          try clear c6b1
          try clear p6
          try clear c8
          try clear c8b0
          try clear c8b1
          obtain ⟨kq, x24_6, rfl, HA, HJ6, ⟨mc6, rfl⟩⟩ := hcut
          cases kq with
          | zero => exact absurd HA.out (by simp [word_Bin.j0])
          | succ kj6 =>
            have H := HA.out
            clear HA
            simp only [word_Bin.j0] at H
            by_cases c9 : x24_6 = true
            · subst c9
              have H1 : ((word_divide.f kj6 a0 a1 a2).bind fun bt106 => (some (bt106.1, bt106.2))) = some (r1, r2) := by rw [if_pos rfl] at H; exact H
              clear H
              have H := H1
              clear H1
              replace H := Option.bind_eq_some_iff.mp H
              obtain ⟨⟨t106, t107⟩, A100, H⟩ := H
              replace H : (some (t106, t107)) = some (r1, r2) := H
              have A10 := Aside0.mk A100
              clear A100
              simp only [Option.some.injEq, Prod.mk.injEq] at H
              obtain ⟨rfl, rfl⟩ := H
              go_wp2_with (first | ((with_reducible refine gate_callee (f := 24) rfl ?_); refine goesL_ (some 30) rfl rfl Tryd.func24 (by kernel_rfl) rfl #[.int .i64 a0, .int .i64 a1, .int .i64 a2] rfl (by (try simp only [List.map_toArray, List.map_cons, List.map_nil]); first | done | rfl | (simp only [List.length_drop, List.length_take]; rfl)) ?_; (with_reducible refine (word_divide.calls kj6 a0 a1 a2 t106 t107 _ A10.out).mono ?_); rintro e w' ⟨rfl, ⟨nd, rfl⟩⟩; refine ⟨_, rfl, ?_⟩))
              go_ret2
              exact ⟨by first | rfl | (simp; done) | (simp [*]; done), by repeat (first | exact Drawn0.refl _ | apply Drawn0.step)⟩
            · replace c9 := Bool.eq_false_iff.mpr c9
              subst c9
              have H1 : (if a0 = 8 then (some (Go.bits .and .i64 a1 a2, 0)) else (if a0 = 9 then (some (Go.bits .or .i64 a1 a2, 0)) else (if a0 = 10 then (some (Go.bits .xor .i64 a1 a2, 0)) else (if a0 = 11 then (if 0 ≤ (Go.bits .and .i64 a2 63) then (some (shl .i64 a1 (Go.bits .and .i64 a2 63), 0)) else (none)) else (if a0 = 12 then (if 0 ≤ (Go.bits .and .i64 a2 63) then (some (shr .i64 a1 (Go.bits .and .i64 a2 63), 0)) else (none)) else (if a0 = 13 then ((word_flag.f (a1 == a2)).bind fun t108 => (some (t108, 0))) else (if a0 = 14 then ((word_flag.f (a1 != a2)).bind fun t109 => (some (t109, 0))) else (if a0 = 15 then ((word_flag.f (decide (a1 < a2))).bind fun t110 => (some (t110, 0))) else (if a0 = 16 then ((word_flag.f (decide (a1 ≤ a2))).bind fun t111 => (some (t111, 0))) else (some (0, 1))))))))))) = some (r1, r2) := by rw [if_neg (show ¬ (false = true) by decide)] at H; exact H
              clear H
              have H := H1
              clear H1
              by_cases c11 : a0 = 8
              · rw [if_pos c11] at H
                have c11b0 : (a0 == 8) = true := beq_iff_eq.mpr c11
                have c11b1 : (a0 != 8) = false := bne_eq_false_iff_eq.mpr c11
                clear c11
                simp only [Option.some.injEq, Prod.mk.injEq] at H
                obtain ⟨rfl, rfl⟩ := H
                go_wp2
                go_ret2
                exact ⟨by first | rfl | (simp; done) | (simp [*]; done), by repeat (first | exact Drawn0.refl _ | apply Drawn0.step)⟩
              · rw [if_neg c11] at H
                have c11b0 : (a0 == 8) = false := beq_eq_false_iff_ne.mpr c11
                have c11b1 : (a0 != 8) = true := bne_iff_ne.mpr c11
                by_cases c12 : a0 = 9
                · rw [if_pos c12] at H
                  have c12b0 : (a0 == 9) = true := beq_iff_eq.mpr c12
                  have c12b1 : (a0 != 9) = false := bne_eq_false_iff_eq.mpr c12
                  clear c12
                  simp only [Option.some.injEq, Prod.mk.injEq] at H
                  obtain ⟨rfl, rfl⟩ := H
                  go_wp2
                  go_ret2
                  exact ⟨by first | rfl | (simp; done) | (simp [*]; done), by repeat (first | exact Drawn0.refl _ | apply Drawn0.step)⟩
                · rw [if_neg c12] at H
                  have c12b0 : (a0 == 9) = false := beq_eq_false_iff_ne.mpr c12
                  have c12b1 : (a0 != 9) = true := bne_iff_ne.mpr c12
                  by_cases c13 : a0 = 10
                  · rw [if_pos c13] at H
                    have c13b0 : (a0 == 10) = true := beq_iff_eq.mpr c13
                    have c13b1 : (a0 != 10) = false := bne_eq_false_iff_eq.mpr c13
                    clear c13
                    simp only [Option.some.injEq, Prod.mk.injEq] at H
                    obtain ⟨rfl, rfl⟩ := H
                    go_wp2
                    go_ret2
                    exact ⟨by first | rfl | (simp; done) | (simp [*]; done), by repeat (first | exact Drawn0.refl _ | apply Drawn0.step)⟩
                  · rw [if_neg c13] at H
                    have c13b0 : (a0 == 10) = false := beq_eq_false_iff_ne.mpr c13
                    have c13b1 : (a0 != 10) = true := bne_iff_ne.mpr c13
                    by_cases c14 : a0 = 11
                    · rw [if_pos c14] at H
                      have c14b0 : (a0 == 11) = true := beq_iff_eq.mpr c14
                      have c14b1 : (a0 != 11) = false := bne_eq_false_iff_eq.mpr c14
                      clear c14
                      by_cases c15 : 0 ≤ (Go.bits .and .i64 a2 63)
                      · rw [if_pos c15] at H
                        have c15b0 := eq_true c15
                        have c15b1 : decide (0 ≤ (Go.bits .and .i64 a2 63)) = true := decide_eq_true c15
                        clear c15
                        obtain ⟨ji16, hji16⟩ : ∃ j_ : Int, (shl .i64 a1 (Go.bits .and .i64 a2 63)) = j_ := ⟨_, rfl⟩
                        replace H : (some (ji16, 0)) = some (r1, r2) := by first | (rw [hji16] at H; exact H) | (simp only [hji16] at H ⊢; exact H)
                        have hji16_ : (IntKind.i64.wrap (a1 * 2 ^ min (Go.bits .and .i64 a2 63).toNat 64)) = ji16 := hji16
                        have hji16z : (Go.bits .and .i64 a2 63) ≤ 64 → (IntKind.i64.wrap (a1 * 2 ^ (Go.bits .and .i64 a2 63).toNat)) = ji16 := shl_small hji16
                        have hji16y : (wrap64 (a1 * 2 ^ min (Go.bits .and .i64 a2 63).toNat 64)) = ji16 := (i64_w _).symm.trans hji16_
                        have hji16x : (Go.bits .and .i64 a2 63) ≤ 64 → (wrap64 (a1 * 2 ^ (Go.bits .and .i64 a2 63).toNat)) = ji16 := fun h_ => (i64_w _).symm.trans (hji16z h_)
                        simp only [Option.some.injEq, Prod.mk.injEq] at H
                        obtain ⟨rfl, rfl⟩ := H
                        go_wp2
                        go_ret2
                        exact ⟨by first | rfl | (simp; done) | (simp only [← hji16] <;> (first | rfl | simp)) | (simp [*]; done), by repeat (first | exact Drawn0.refl _ | apply Drawn0.step)⟩
                      · rw [if_neg c15] at H
                        exact absurd H (by simp)
                    · rw [if_neg c14] at H
                      have c14b0 : (a0 == 11) = false := beq_eq_false_iff_ne.mpr c14
                      have c14b1 : (a0 != 11) = true := bne_iff_ne.mpr c14
                      by_cases c17 : a0 = 12
                      · rw [if_pos c17] at H
                        have c17b0 : (a0 == 12) = true := beq_iff_eq.mpr c17
                        have c17b1 : (a0 != 12) = false := bne_eq_false_iff_eq.mpr c17
                        clear c17
                        by_cases c18 : 0 ≤ (Go.bits .and .i64 a2 63)
                        · rw [if_pos c18] at H
                          have c18b0 := eq_true c18
                          have c18b1 : decide (0 ≤ (Go.bits .and .i64 a2 63)) = true := decide_eq_true c18
                          clear c18
                          obtain ⟨ji19, hji19⟩ : ∃ j_ : Int, (shr .i64 a1 (Go.bits .and .i64 a2 63)) = j_ := ⟨_, rfl⟩
                          replace H : (some (ji19, 0)) = some (r1, r2) := by first | (rw [hji19] at H; exact H) | (simp only [hji19] at H ⊢; exact H)
                          have hji19_ : (a1 / 2 ^ min (Go.bits .and .i64 a2 63).toNat 64) = ji19 := hji19
                          have hji19z : (Go.bits .and .i64 a2 63) ≤ 64 → (a1 / 2 ^ (Go.bits .and .i64 a2 63).toNat) = ji19 := shr_small hji19
                          simp only [Option.some.injEq, Prod.mk.injEq] at H
                          obtain ⟨rfl, rfl⟩ := H
                          go_wp2
                          go_ret2
                          exact ⟨by first | rfl | (simp; done) | (simp only [← hji19] <;> (first | rfl | simp)) | (simp [*]; done), by repeat (first | exact Drawn0.refl _ | apply Drawn0.step)⟩
                        · rw [if_neg c18] at H
                          exact absurd H (by simp)
                      · rw [if_neg c17] at H
                        have c17b0 : (a0 == 12) = false := beq_eq_false_iff_ne.mpr c17
                        have c17b1 : (a0 != 12) = true := bne_iff_ne.mpr c17
                        by_cases c20 : a0 = 13
                        · rw [if_pos c20] at H
                          have c20b0 : (a0 == 13) = true := beq_iff_eq.mpr c20
                          have c20b1 : (a0 != 13) = false := bne_eq_false_iff_eq.mpr c20
                          clear c20
                          replace H := Option.bind_eq_some_iff.mp H
                          obtain ⟨t108, A210, H⟩ := H
                          replace H : (some (t108, 0)) = some (r1, r2) := H
                          have A21 := Aside0.mk A210
                          clear A210
                          simp only [Option.some.injEq, Prod.mk.injEq] at H
                          obtain ⟨rfl, rfl⟩ := H
                          go_wp2_with (first | ((with_reducible refine gate_callee (f := 25) rfl ?_); refine goesL_ (some 65) rfl rfl Tryd.func25 (by kernel_rfl) rfl #[.bool (a1 == a2)] rfl (by (try simp only [List.map_toArray, List.map_cons, List.map_nil]); first | done | rfl | (simp only [List.length_drop, List.length_take]; rfl)) ?_; (with_reducible refine (word_flag.calls (a1 == a2) t108 _ A21.out).mono ?_); rintro e w' ⟨rfl, ⟨nd, rfl⟩⟩; refine ⟨_, rfl, ?_⟩))
                          go_ret2
                          exact ⟨by first | rfl | (simp; done) | (simp [*]; done), by repeat (first | exact Drawn0.refl _ | apply Drawn0.step)⟩
                        · rw [if_neg c20] at H
                          have c20b0 : (a0 == 13) = false := beq_eq_false_iff_ne.mpr c20
                          have c20b1 : (a0 != 13) = true := bne_iff_ne.mpr c20
                          by_cases c22 : a0 = 14
                          · rw [if_pos c22] at H
                            have c22b0 : (a0 == 14) = true := beq_iff_eq.mpr c22
                            have c22b1 : (a0 != 14) = false := bne_eq_false_iff_eq.mpr c22
                            clear c22
                            replace H := Option.bind_eq_some_iff.mp H
                            obtain ⟨t109, A230, H⟩ := H
                            replace H : (some (t109, 0)) = some (r1, r2) := H
                            have A23 := Aside0.mk A230
                            clear A230
                            simp only [Option.some.injEq, Prod.mk.injEq] at H
                            obtain ⟨rfl, rfl⟩ := H
                            go_wp2_with (first | ((with_reducible refine gate_callee (f := 25) rfl ?_); refine goesL_ (some 71) rfl rfl Tryd.func25 (by kernel_rfl) rfl #[.bool (a1 != a2)] rfl (by (try simp only [List.map_toArray, List.map_cons, List.map_nil]); first | done | rfl | (simp only [List.length_drop, List.length_take]; rfl)) ?_; (with_reducible refine (word_flag.calls (a1 != a2) t109 _ A23.out).mono ?_); rintro e w' ⟨rfl, ⟨nd, rfl⟩⟩; refine ⟨_, rfl, ?_⟩))
                            go_ret2
                            exact ⟨by first | rfl | (simp; done) | (simp [*]; done), by repeat (first | exact Drawn0.refl _ | apply Drawn0.step)⟩
                          · rw [if_neg c22] at H
                            have c22b0 : (a0 == 14) = false := beq_eq_false_iff_ne.mpr c22
                            have c22b1 : (a0 != 14) = true := bne_iff_ne.mpr c22
                            by_cases c24 : a0 = 15
                            · rw [if_pos c24] at H
                              have c24b0 : (a0 == 15) = true := beq_iff_eq.mpr c24
                              have c24b1 : (a0 != 15) = false := bne_eq_false_iff_eq.mpr c24
                              clear c24
                              replace H := Option.bind_eq_some_iff.mp H
                              obtain ⟨t110, A250, H⟩ := H
                              replace H : (some (t110, 0)) = some (r1, r2) := H
                              have A25 := Aside0.mk A250
                              clear A250
                              simp only [Option.some.injEq, Prod.mk.injEq] at H
                              obtain ⟨rfl, rfl⟩ := H
                              go_wp2_with (first | ((with_reducible refine gate_callee (f := 25) rfl ?_); refine goesL_ (some 77) rfl rfl Tryd.func25 (by kernel_rfl) rfl #[.bool (decide (a1 < a2))] rfl (by (try simp only [List.map_toArray, List.map_cons, List.map_nil]); first | done | rfl | (simp only [List.length_drop, List.length_take]; rfl)) ?_; (with_reducible refine (word_flag.calls (decide (a1 < a2)) t110 _ A25.out).mono ?_); rintro e w' ⟨rfl, ⟨nd, rfl⟩⟩; refine ⟨_, rfl, ?_⟩))
                              go_ret2
                              exact ⟨by first | rfl | (simp; done) | (simp [*]; done), by repeat (first | exact Drawn0.refl _ | apply Drawn0.step)⟩
                            · rw [if_neg c24] at H
                              have c24b0 : (a0 == 15) = false := beq_eq_false_iff_ne.mpr c24
                              have c24b1 : (a0 != 15) = true := bne_iff_ne.mpr c24
                              by_cases c26 : a0 = 16
                              · rw [if_pos c26] at H
                                have c26b0 : (a0 == 16) = true := beq_iff_eq.mpr c26
                                have c26b1 : (a0 != 16) = false := bne_eq_false_iff_eq.mpr c26
                                clear c26
                                replace H := Option.bind_eq_some_iff.mp H
                                obtain ⟨t111, A270, H⟩ := H
                                replace H : (some (t111, 0)) = some (r1, r2) := H
                                have A27 := Aside0.mk A270
                                clear A270
                                simp only [Option.some.injEq, Prod.mk.injEq] at H
                                obtain ⟨rfl, rfl⟩ := H
                                go_wp2_with (first | ((with_reducible refine gate_callee (f := 25) rfl ?_); refine goesL_ (some 83) rfl rfl Tryd.func25 (by kernel_rfl) rfl #[.bool (decide (a1 ≤ a2))] rfl (by (try simp only [List.map_toArray, List.map_cons, List.map_nil]); first | done | rfl | (simp only [List.length_drop, List.length_take]; rfl)) ?_; (with_reducible refine (word_flag.calls (decide (a1 ≤ a2)) t111 _ A27.out).mono ?_); rintro e w' ⟨rfl, ⟨nd, rfl⟩⟩; refine ⟨_, rfl, ?_⟩))
                                go_ret2
                                exact ⟨by first | rfl | (simp; done) | (simp [*]; done), by repeat (first | exact Drawn0.refl _ | apply Drawn0.step)⟩
                              · rw [if_neg c26] at H
                                have c26b0 : (a0 == 16) = false := beq_eq_false_iff_ne.mpr c26
                                have c26b1 : (a0 != 16) = true := bne_iff_ne.mpr c26
                                simp only [Option.some.injEq, Prod.mk.injEq] at H
                                obtain ⟨rfl, rfl⟩ := H
                                go_wp2
                                go_ret2
                                exact ⟨by first | rfl | (simp; done) | (simp [*]; done), by repeat (first | exact Drawn0.refl _ | apply Drawn0.step)⟩

/-! ### step_taken: function 16 -/
def step_taken.j0 : Nat → Int → Int → Bool → Option (Bool)
  | 0, _, _, _ => none
  | k + 1, x1, x5, x6 => if x6 = true then (some (x1 == 0)) else (if x5 = 22 then (some (x1 != 0)) else (if x5 = 27 then (some (x1 != 0)) else (some true)))
def step_taken.f (k : Nat) (a0 : Int) (a1 : Int) : Option (Bool) := if a0 = 21 then (step_taken.j0 k a1 a0 (a0 == 21)) else (step_taken.j0 k a1 a0 (a0 == 26))
theorem step_taken.mono_l : ∀ k, (∀ y0 y1 y2, LeO (step_taken.j0 k y0 y1 y2) (step_taken.j0 (k + 1) y0 y1 y2))
  | 0 => fun _ _ _ r h => by simp [step_taken.j0] at h
  | k + 1 => by
    have ih0 := step_taken.mono_l k
    · intro y0 y1 y2
      unfold step_taken.j0
      repeat' first
      | (with_reducible exact ih0 _ _ _)
      | (with_reducible exact LeO.refl _)
      | (with_reducible exact LeO.none _)
      | (with_reducible refine LeO.ite ?_ ?_)
      | (with_reducible refine LeO.bind ?_ (fun _ => ?_))
      | exact ih0 _ _ _
      | exact LeO.none _
      | refine LeO.ite ?_ ?_
      | refine LeO.bind ?_ (fun _ => ?_)
theorem step_taken.mono : ∀ a0 a1 k, LeO (step_taken.f k a0 a1) (step_taken.f (k + 1) a0 a1) := by
  intro a0 a1 k
  have ih0 := step_taken.mono_l k
  unfold step_taken.f
  repeat' first
      | (with_reducible exact ih0 _ _ _)
      | (with_reducible exact LeO.refl _)
      | (with_reducible exact LeO.none _)
      | (with_reducible refine LeO.ite ?_ ?_)
      | (with_reducible refine LeO.bind ?_ (fun _ => ?_))
      | exact ih0 _ _ _
      | exact LeO.none _
      | refine LeO.ite ?_ ?_
      | refine LeO.bind ?_ (fun _ => ?_)
set_option maxHeartbeats 8000000 in
set_option maxRecDepth 100000 in
theorem step_taken.calls (k : Nat) (a0 : Int) (a1 : Int) (r : Bool) (w : World) (h : step_taken.f k a0 a1 = some r) :
    Calls Tryd.prog 16 #[.int .i64 a0, .int .i64 a1] w fun e w' => e = .returned (.bool r) ∧ Drawn0 w w' := by
  have H : (if a0 = 21 then (step_taken.j0 k a1 a0 (a0 == 21)) else (step_taken.j0 k a1 a0 (a0 == 26))) = some r := h
  clear h
  have HC3 := Aside0.mk H
  clear H
  go_enter Tryd.func16, Tryd.ntmps16
  go_upto_if 6 with (fail)
  go_cut [6] (fun v6 wc => ∃ (kq : Nat) (x6_2 : Bool), v6 = .bool x6_2 ∧ Aside0 (step_taken.j0 kq a1 a0 x6_2 = some r) ∧ Aside0 (kq ≤ k) ∧ Drawn0 w wc)
  case first =>
    have H := HC3.out
    clear HC3
    by_cases c4 : a0 = 21
    · rw [if_pos c4] at H
      have c4b0 : (a0 == 21) = true := beq_iff_eq.mpr c4
      have c4b1 : (a0 != 21) = false := bne_eq_false_iff_eq.mpr c4
      clear c4
      (first | rw [c4b0] | (simp only [i64_w, i32_w]; rw [c4b0]) | skip)
      have H' := Aside0.mk H
      clear H
      go_wp2
      go_meet
      case rel => exact ⟨_, ((a0 == 21)), (by first | rfl | (simp; done) | (simp [*]; done)), H', ⟨by first | omega | exact Nat.le_refl _⟩, by repeat (first | exact Drawn0.refl _ | apply Drawn0.step)⟩
    · rw [if_neg c4] at H
      have c4b0 : (a0 == 21) = false := beq_eq_false_iff_ne.mpr c4
      have c4b1 : (a0 != 21) = true := bne_iff_ne.mpr c4
      (first | rw [c4b0] | (simp only [i64_w, i32_w]; rw [c4b0]) | skip)
      have H' := Aside0.mk H
      clear H
      go_wp2
      go_meet
      case rel => exact ⟨_, ((a0 == 26)), (by first | rfl | (simp; done) | (simp [*]; done)), H', ⟨by first | omega | exact Nat.le_refl _⟩, by repeat (first | exact Drawn0.refl _ | apply Drawn0.step)⟩
  case rest =>
    clear HC3
    try clear c1
    try clear p2
    try clear c4
    try clear c4b0
    try clear c4b1
    obtain ⟨kq, x6_2, rfl, HA, HJ2, ⟨mc2, rfl⟩⟩ := hcut
    cases kq with
    | zero => exact absurd HA.out (by simp [step_taken.j0])
    | succ kj2 =>
      have H := HA.out
      clear HA
      simp only [step_taken.j0] at H
      by_cases c5 : x6_2 = true
      · subst c5
        have H1 : (some (a1 == 0)) = some r := by rw [if_pos rfl] at H; exact H
        clear H
        have H := H1
        clear H1
        obtain rfl := Option.some.inj H
        go_wp2
        go_ret
        exact ⟨by first | rfl | (simp; done) | (simp [*]; done), by repeat (first | exact Drawn0.refl _ | apply Drawn0.step)⟩
      · replace c5 := Bool.eq_false_iff.mpr c5
        subst c5
        have H1 : (if a0 = 22 then (some (a1 != 0)) else (if a0 = 27 then (some (a1 != 0)) else (some true))) = some r := by rw [if_neg (show ¬ (false = true) by decide)] at H; exact H
        clear H
        have H := H1
        clear H1
        by_cases c6 : a0 = 22
        · rw [if_pos c6] at H
          have c6b0 : (a0 == 22) = true := beq_iff_eq.mpr c6
          have c6b1 : (a0 != 22) = false := bne_eq_false_iff_eq.mpr c6
          clear c6
          obtain rfl := Option.some.inj H
          go_wp2
          go_ret
          exact ⟨by first | rfl | (simp; done) | (simp [*]; done), by repeat (first | exact Drawn0.refl _ | apply Drawn0.step)⟩
        · rw [if_neg c6] at H
          have c6b0 : (a0 == 22) = false := beq_eq_false_iff_ne.mpr c6
          have c6b1 : (a0 != 22) = true := bne_iff_ne.mpr c6
          by_cases c7 : a0 = 27
          · rw [if_pos c7] at H
            have c7b0 : (a0 == 27) = true := beq_iff_eq.mpr c7
            have c7b1 : (a0 != 27) = false := bne_eq_false_iff_eq.mpr c7
            clear c7
            obtain rfl := Option.some.inj H
            go_wp2
            go_ret
            exact ⟨by first | rfl | (simp; done) | (simp [*]; done), by repeat (first | exact Drawn0.refl _ | apply Drawn0.step)⟩
          · rw [if_neg c7] at H
            have c7b0 : (a0 == 27) = false := beq_eq_false_iff_ne.mpr c7
            have c7b1 : (a0 != 27) = true := bne_iff_ne.mpr c7
            obtain rfl := Option.some.inj H
            go_wp2
            go_ret
            exact ⟨by first | rfl | (simp; done) | (simp [*]; done), by repeat (first | exact Drawn0.refl _ | apply Drawn0.step)⟩

/-- THE ONE PURE STATEMENT of step_taken: yours. -/
def step_taken.Pure : Prop := ∀ (a0 : Int) (a1 : Int), (Lit.int .i64 a0).wf = true → (Lit.int .i64 a1).wf = true → ∃ k, step_taken.f k a0 a1 = some true
theorem step_taken.walk (P : step_taken.Pure) (a0 : Int) (a1 : Int) (w : World) (w0 : (Lit.int .i64 a0).wf = true) (w1 : (Lit.int .i64 a1).wf = true) :
    Calls Tryd.prog 16 #[.int .i64 a0, .int .i64 a1] w fun e w' => e = .returned (.bool true) ∧ Below w.heap.size w w' := by
  obtain ⟨k, h⟩ := P a0 a1 w0 w1
  refine (step_taken.calls k a0 a1 true w h).mono ?_
  rintro e w' ⟨rfl, hd⟩
  exact ⟨rfl, hd.below⟩

end Go.Proofs.YtjlfjkpbooholaaDoor.M
