-- Written by a program of this session (wip/ownprint.py) over the translation. Lean checks it.
import Derived.Test.YthmheblilgegcaaDoorM0
import Derived.Test.YthmheblilgegcaaDoorM8
import Derived.Test.YthmheblilgegcaaDoorM9
namespace Go.Proofs.YthmheblilgegcaaDoor.M
open Go.RowKit Go.Proofs.YthmheblilgegcaaDoorW.PrintWords Go.Proofs.YthmheblilgegcaaDoorW.PrintLast
set_option linter.unusedVariables false
set_option linter.unusedSimpArgs false

/-! ### cotterref03_Size: function 12 -/
def cotterref03_Size.f (k : Nat) (a0 : Int) : Option (Int) := (cotterref03_form.f k a0).bind fun t185 => (if t185 = 0 then (some 0) else ((cotterref03_parts.f k t185).bind fun bt186 => (if bt186.1 = true then (some (wrap64 (1 + (wrap64 (bt186.2.2 + 1))))) else (some (wrap64 (1 + bt186.2.2))))))
theorem cotterref03_Size.mono : ∀ a0 k, LeO (cotterref03_Size.f k a0) (cotterref03_Size.f (k + 1) a0) := by
  intro a0 k
  unfold cotterref03_Size.f
  repeat' first
      | (with_reducible exact cotterref03_form.mono _ _)
      | (with_reducible exact cotterref03_parts.mono _ _)
      | (with_reducible exact LeO.refl _)
      | (with_reducible exact LeO.none _)
      | (with_reducible refine LeO.ite ?_ ?_)
      | (with_reducible refine LeO.bind ?_ (fun _ => ?_))
      | exact cotterref03_form.mono _ _
      | exact cotterref03_parts.mono _ _
      | exact LeO.none _
      | refine LeO.ite ?_ ?_
      | refine LeO.bind ?_ (fun _ => ?_)
set_option maxHeartbeats 8000000 in
set_option maxRecDepth 100000 in
theorem cotterref03_Size.calls (k : Nat) (a0 : Int) (r : Int) (w : World) (h : cotterref03_Size.f k a0 = some r) :
    Calls Tryd.prog 12 #[.int .i64 a0] w fun e w' => e = .returned (.int .i64 r) ∧ Drawn0 w w' := by
  have H : ((cotterref03_form.f k a0).bind fun t185 => (if t185 = 0 then (some 0) else ((cotterref03_parts.f k t185).bind fun bt186 => (if bt186.1 = true then (some (wrap64 (1 + (wrap64 (bt186.2.2 + 1))))) else (some (wrap64 (1 + bt186.2.2))))))) = some r := h
  clear h
  replace H := Option.bind_eq_some_iff.mp H
  obtain ⟨t185, A20, H⟩ := H
  replace H : (if t185 = 0 then (some 0) else ((cotterref03_parts.f k t185).bind fun bt186 => (if bt186.1 = true then (some (wrap64 (1 + (wrap64 (bt186.2.2 + 1))))) else (some (wrap64 (1 + bt186.2.2)))))) = some r := H
  have A2 := Aside0.mk A20
  clear A20
  by_cases c3 : t185 = 0
  · rw [if_pos c3] at H
    have c3b0 : (t185 == 0) = true := beq_iff_eq.mpr c3
    have c3b1 : (t185 != 0) = false := bne_eq_false_iff_eq.mpr c3
    clear c3
    obtain rfl := Option.some.inj H
    go_enter Tryd.func12, Tryd.ntmps12
    go_wp2_with (first | ((with_reducible refine gate_callee (f := 24) rfl ?_); refine goesL_ (some 8) rfl rfl Tryd.func24 (by kernel_rfl) rfl #[.int .i64 a0] rfl (by (try simp only [List.map_toArray, List.map_cons, List.map_nil]); first | done | rfl | (simp only [List.length_drop, List.length_take]; rfl)) ?_; (with_reducible refine (cotterref03_form.calls k a0 t185 _ A2.out).mono ?_); rintro e w' ⟨rfl, ⟨nd, rfl⟩⟩; refine ⟨_, rfl, ?_⟩))
    go_ret
    exact ⟨by first | rfl | (simp; done) | (simp [*]; done), by repeat (first | exact Drawn0.refl _ | apply Drawn0.step)⟩
  · rw [if_neg c3] at H
    have c3b0 : (t185 == 0) = false := beq_eq_false_iff_ne.mpr c3
    have c3b1 : (t185 != 0) = true := bne_iff_ne.mpr c3
    replace H := Option.bind_eq_some_iff.mp H
    obtain ⟨⟨t186, t187, t188⟩, A40, H⟩ := H
    replace H : (if t186 = true then (some (wrap64 (1 + (wrap64 (t188 + 1))))) else (some (wrap64 (1 + t188)))) = some r := H
    have A4 := Aside0.mk A40
    clear A40
    by_cases c5 : t186 = true
    · subst c5
      have H1 : (some (wrap64 (1 + (wrap64 (t188 + 1))))) = some r := by rw [if_pos rfl] at H; exact H
      clear H
      have H := H1
      clear H1
      obtain rfl := Option.some.inj H
      go_enter Tryd.func12, Tryd.ntmps12
      go_wp2_with (first | ((with_reducible refine gate_callee (f := 24) rfl ?_); refine goesL_ (some 8) rfl rfl Tryd.func24 (by kernel_rfl) rfl #[.int .i64 a0] rfl (by (try simp only [List.map_toArray, List.map_cons, List.map_nil]); first | done | rfl | (simp only [List.length_drop, List.length_take]; rfl)) ?_; (with_reducible refine (cotterref03_form.calls k a0 t185 _ A2.out).mono ?_); rintro e w' ⟨rfl, ⟨nd, rfl⟩⟩; refine ⟨_, rfl, ?_⟩) | ((with_reducible refine gate_callee (f := 25) rfl ?_); refine goesL_ (some 13) rfl rfl Tryd.func25 (by kernel_rfl) rfl #[.int .i64 t185] rfl (by (try simp only [List.map_toArray, List.map_cons, List.map_nil]); first | done | rfl | (simp only [List.length_drop, List.length_take]; rfl)) ?_; (with_reducible refine (cotterref03_parts.calls k t185 true t187 t188 _ A4.out).mono ?_); rintro e w' ⟨rfl, ⟨nd, rfl⟩⟩; refine ⟨_, rfl, ?_⟩))
      go_ret
      exact ⟨by first | rfl | (simp; done) | (simp [*]; done), by repeat (first | exact Drawn0.refl _ | apply Drawn0.step)⟩
    · replace c5 := Bool.eq_false_iff.mpr c5
      subst c5
      have H1 : (some (wrap64 (1 + t188))) = some r := by rw [if_neg (show ¬ (false = true) by decide)] at H; exact H
      clear H
      have H := H1
      clear H1
      obtain rfl := Option.some.inj H
      go_enter Tryd.func12, Tryd.ntmps12
      go_wp2_with (first | ((with_reducible refine gate_callee (f := 24) rfl ?_); refine goesL_ (some 8) rfl rfl Tryd.func24 (by kernel_rfl) rfl #[.int .i64 a0] rfl (by (try simp only [List.map_toArray, List.map_cons, List.map_nil]); first | done | rfl | (simp only [List.length_drop, List.length_take]; rfl)) ?_; (with_reducible refine (cotterref03_form.calls k a0 t185 _ A2.out).mono ?_); rintro e w' ⟨rfl, ⟨nd, rfl⟩⟩; refine ⟨_, rfl, ?_⟩) | ((with_reducible refine gate_callee (f := 25) rfl ?_); refine goesL_ (some 13) rfl rfl Tryd.func25 (by kernel_rfl) rfl #[.int .i64 t185] rfl (by (try simp only [List.map_toArray, List.map_cons, List.map_nil]); first | done | rfl | (simp only [List.length_drop, List.length_take]; rfl)) ?_; (with_reducible refine (cotterref03_parts.calls k t185 false t187 t188 _ A4.out).mono ?_); rintro e w' ⟨rfl, ⟨nd, rfl⟩⟩; refine ⟨_, rfl, ?_⟩))
      go_ret
      exact ⟨by first | rfl | (simp; done) | (simp [*]; done), by repeat (first | exact Drawn0.refl _ | apply Drawn0.step)⟩

/-! ### cotterref01_Number: function 29 -/
def cotterref01_Number.l0 : Nat → ByteArray → Int → Int → Option (Int × Int)
  | 0, _, _, _ => none
  | k + 1, x0, x4, x5 => if x5 ≥ 0 then (if 0 ≤ x5 then (if x5 < (x0.size : Int) then (cotterref01_Number.l0 k x0 (IntKind.u64.wrap ((IntKind.u64.wrap (x4 * 256)) + (IntKind.u64.wrap (bt x0 x5)))) (wrap64 (x5 - 1))) else (none)) else (none)) else (if (x0.size : Int) < 8 then (if 0 ≤ (wrap64 ((x0.size : Int) - 1)) then (if (wrap64 ((x0.size : Int) - 1)) < (x0.size : Int) then (if (bt x0 (wrap64 ((x0.size : Int) - 1))) ≥ 128 then (if 0 ≤ (IntKind.u64.wrap (wrap64 (8 * (x0.size : Int)))) then (some (wrap64 (IntKind.u64.wrap (x4 - (shl .u64 1 (IntKind.u64.wrap (wrap64 (8 * (x0.size : Int))))))), 0)) else (none)) else (some (wrap64 (x4), 0))) else (none)) else (none)) else (some (wrap64 (x4), 0)))
def cotterref01_Number.f (k : Nat) (a0 : ByteArray) : Option (Int × Int) := (cotterref01_sized.f (a0.size : Int)).bind fun t189 => (if t189 = true then (cotterref01_Number.l0 k a0 0 (wrap64 ((a0.size : Int) - 1))) else (some (0, 1)))
theorem cotterref01_Number.mono_l : ∀ k, (∀ y0 y1 y2, LeO (cotterref01_Number.l0 k y0 y1 y2) (cotterref01_Number.l0 (k + 1) y0 y1 y2))
  | 0 => fun _ _ _ r h => by simp [cotterref01_Number.l0] at h
  | k + 1 => by
    have ih0 := cotterref01_Number.mono_l k
    · intro y0 y1 y2
      unfold cotterref01_Number.l0
      repeat' first
      | (with_reducible exact ih0 _ _ _)
      | (with_reducible exact LeO.refl _)
      | (with_reducible exact LeO.none _)
      | (with_reducible refine LeO.ite ?_ ?_)
      | (with_reducible refine LeO.bind ?_ (fun _ => ?_))
      | exact ih0 _ _ _
      | exact LeO.none _
      | refine LeO.ite ?_ ?_
      | refine LeO.bind ?_ (fun _ => ?_)
theorem cotterref01_Number.mono : ∀ a0 k, LeO (cotterref01_Number.f k a0) (cotterref01_Number.f (k + 1) a0) := by
  intro a0 k
  have ih0 := cotterref01_Number.mono_l k
  unfold cotterref01_Number.f
  repeat' first
      | (with_reducible exact ih0 _ _ _)
      | (with_reducible exact LeO.refl _)
      | (with_reducible exact LeO.none _)
      | (with_reducible refine LeO.ite ?_ ?_)
      | (with_reducible refine LeO.bind ?_ (fun _ => ?_))
      | exact ih0 _ _ _
      | exact LeO.none _
      | refine LeO.ite ?_ ?_
      | refine LeO.bind ?_ (fun _ => ?_)
set_option maxHeartbeats 8000000 in
set_option maxRecDepth 100000 in
theorem cotterref01_Number.calls (k : Nat) (a0 : ByteArray) (r1 : Int) (r2 : Int) (w : World) (h : cotterref01_Number.f k a0 = some (r1, r2)) :
    Calls Tryd.prog 29 #[.string a0] w fun e w' => e = .returned (.tuple #[.int .i64 r1, .int .i64 r2]) ∧ Drawn0 w w' := by
  have H : ((cotterref01_sized.f (a0.size : Int)).bind fun t189 => (if t189 = true then (cotterref01_Number.l0 k a0 0 (wrap64 ((a0.size : Int) - 1))) else (some (0, 1)))) = some (r1, r2) := h
  clear h
  replace H := Option.bind_eq_some_iff.mp H
  obtain ⟨t189, A20, H⟩ := H
  replace H : (if t189 = true then (cotterref01_Number.l0 k a0 0 (wrap64 ((a0.size : Int) - 1))) else (some (0, 1))) = some (r1, r2) := H
  have A2 := Aside0.mk A20
  clear A20
  by_cases c3 : t189 = true
  · subst c3
    have H1 : (cotterref01_Number.l0 k a0 0 (wrap64 ((a0.size : Int) - 1))) = some (r1, r2) := by rw [if_pos rfl] at H; exact H
    clear H
    have H := H1
    clear H1
    have H' := Aside0.mk H
    clear H
    go_enter Tryd.func29, Tryd.ntmps29
    go_wp2_with (first | ((with_reducible refine gate_callee (f := 30) rfl ?_); refine goesL_ (some 8) rfl rfl Tryd.func30 (by kernel_rfl) rfl #[.int .i64 (a0.size : Int)] rfl (by (try simp only [List.map_toArray, List.map_cons, List.map_nil]); first | done | rfl | (simp only [List.length_drop, List.length_take]; rfl)) ?_; (with_reducible refine (cotterref01_sized.calls (a0.size : Int) true _ A2.out).mono ?_); rintro e w' ⟨rfl, ⟨nd, rfl⟩⟩; refine ⟨_, rfl, ?_⟩))
    go_loopg [4, 5] k (fun kq v4 v5 w' => ∃ (x4_1 : Int) (x5_1 : Int), v4 = .int .u64 x4_1 ∧ v5 = .int .i64 x5_1 ∧ Aside0 (cotterref01_Number.l0 kq a0 x4_1 x5_1 = some (r1, r2)) ∧ Aside0 (kq ≤ k) ∧ Drawn0 w w')
    case atStart => exact ⟨(0), (wrap64 ((a0.size : Int) - 1)), (by first | rfl | (simp; done) | (simp [*]; done)), (by first | rfl | (simp; done) | (simp [*]; done)), H', ⟨Nat.le_refl _⟩, by repeat (first | exact Drawn0.refl _ | apply Drawn0.step)⟩
    case round =>
      clear H'
      try clear c2
      try clear p2
      try clear c3
      obtain ⟨x4_1, x5_1, rfl, rfl, HA, HK1, ⟨m1, rfl⟩⟩ := hrel
      cases gk with
      | zero => exact absurd HA.out (by simp [cotterref01_Number.l0])
      | succ k1 =>
        have H := HA.out
        clear HA
        simp only [cotterref01_Number.l0] at H
        by_cases c4 : x5_1 ≥ 0
        · rw [if_pos c4] at H
          have c4b0 : decide (0 ≤ x5_1) = true := decide_eq_true c4
          clear c4
          by_cases c5 : 0 ≤ x5_1
          · rw [if_pos c5] at H
            have c5b0 : decide (0 ≤ x5_1) = true := decide_eq_true c5
            clear c5
            by_cases c6 : x5_1 < (a0.size : Int)
            · rw [if_pos c6] at H
              have c6b0 : decide (x5_1 < (a0.size : Int)) = true := decide_eq_true c6
              clear c6
              have H' := Aside0.mk H
              clear H
              have p7 : 0 ≤ (x5_1 : Int) := of_decide_eq_true (by first | (with_reducible assumption) | assumption)
              have q7 : x5_1 < (a0.size : Int) := of_decide_eq_true (by first | (with_reducible assumption) | assumption)
              have hx7 := bt_at a0 x5_1
              replace p7 := eq_true p7
              replace q7 := eq_true q7
              go_wp2
              go_roundg k1
              case measure => have := HK1.out; omega
              case rel => exact ⟨(IntKind.u64.wrap ((IntKind.u64.wrap (x4_1 * 256)) + (IntKind.u64.wrap (bt a0 x5_1)))), (wrap64 (x5_1 - 1)), (by first | rfl | (simp; done) | (simp [*]; done)), (by first | rfl | (simp; done) | (simp [*]; done)), H', ⟨by have := HK1.out; omega⟩, by repeat (first | exact Drawn0.refl _ | apply Drawn0.step)⟩
            · rw [if_neg c6] at H
              exact absurd H (by simp)
          · rw [if_neg c5] at H
            exact absurd H (by simp)
        · rw [if_neg c4] at H
          have c4b0 : decide (0 ≤ x5_1) = false := decide_eq_false c4
          clear c4
          by_cases c8 : (a0.size : Int) < 8
          · rw [if_pos c8] at H
            have c8b0 : decide ((a0.size : Int) < 8) = true := decide_eq_true c8
            have c8b1 : decide (a0.size < 8) = true := decide_eq_true (by omega)
            clear c8
            obtain ⟨ji9, hji9⟩ : ∃ j_ : Int, (wrap64 ((a0.size : Int) - 1)) = j_ := ⟨_, rfl⟩
            replace H : (if 0 ≤ (ji9) then (if (ji9) < (a0.size : Int) then (if (bt a0 (ji9)) ≥ 128 then (if 0 ≤ (IntKind.u64.wrap (wrap64 (8 * (a0.size : Int)))) then (some (wrap64 (IntKind.u64.wrap (x4_1 - (shl .u64 1 (IntKind.u64.wrap (wrap64 (8 * (a0.size : Int))))))), 0)) else (none)) else (some (wrap64 (x4_1), 0))) else (none)) else (none)) = some (r1, r2) := by first | (rw [hji9] at H; exact H) | (simp only [hji9] at H ⊢; exact H)
            have hji9w : (IntKind.i64.wrap ((a0.size : Int) - 1)) = ji9 := (i64_w _).trans hji9
            by_cases c10 : 0 ≤ (ji9)
            · rw [if_pos c10] at H
              have c10b0 : decide (0 ≤ (ji9)) = true := decide_eq_true c10
              clear c10
              by_cases c11 : (ji9) < (a0.size : Int)
              · rw [if_pos c11] at H
                have c11b0 : decide ((ji9) < (a0.size : Int)) = true := decide_eq_true c11
                clear c11
                by_cases c13 : (bt a0 (ji9)) ≥ 128
                · rw [if_pos c13] at H
                  have c13b0 : decide (128 ≤ (bt a0 (ji9))) = true := decide_eq_true c13
                  clear c13
                  obtain ⟨ji14, hji14⟩ : ∃ j_ : Int, (IntKind.u64.wrap (wrap64 (8 * (a0.size : Int)))) = j_ := ⟨_, rfl⟩
                  replace H : (if 0 ≤ (ji14) then (some (wrap64 (IntKind.u64.wrap (x4_1 - (shl .u64 1 (ji14)))), 0)) else (none)) = some (r1, r2) := by first | (rw [hji14] at H; exact H) | (simp only [hji14] at H ⊢; exact H)
                  by_cases c15 : 0 ≤ (ji14)
                  · rw [if_pos c15] at H
                    have c15b0 := eq_true c15
                    have c15b1 : decide (0 ≤ (ji14)) = true := decide_eq_true c15
                    clear c15
                    obtain ⟨ji16, hji16⟩ : ∃ j_ : Int, (shl .u64 1 (ji14)) = j_ := ⟨_, rfl⟩
                    replace H : (some (wrap64 (IntKind.u64.wrap (x4_1 - (ji16))), 0)) = some (r1, r2) := by first | (rw [hji16] at H; exact H) | (simp only [hji16] at H ⊢; exact H)
                    have hji16_ : (IntKind.u64.wrap (1 * 2 ^ min (ji14).toNat 64)) = ji16 := hji16
                    have hji16z : (ji14) ≤ 64 → (IntKind.u64.wrap (1 * 2 ^ (ji14).toNat)) = ji16 := shl_small hji16
                    have hji16u : (IntKind.u64.wrap (2 ^ min (ji14).toNat 64)) = ji16 := by have h_ := hji16_; rw [Int.one_mul] at h_; exact h_
                    have hji16v : (ji14) ≤ 64 → (IntKind.u64.wrap (2 ^ (ji14).toNat)) = ji16 := fun hle_ => by have h_ := hji16z hle_; rw [Int.one_mul] at h_; exact h_
                    simp only [Option.some.injEq, Prod.mk.injEq] at H
                    obtain ⟨rfl, rfl⟩ := H
                    have p12 : 0 ≤ ((ji9) : Int) := of_decide_eq_true (by first | (with_reducible assumption) | assumption)
                    have q12 : (ji9) < (a0.size : Int) := of_decide_eq_true (by first | (with_reducible assumption) | assumption)
                    have hx12 := bt_at a0 (ji9)
                    replace p12 := eq_true p12
                    replace q12 := eq_true q12
                    go_wp2
                    go_ret2
                    exact ⟨by first | rfl | (simp; done) | (simp only [← hji9, ← hji14, ← hji16] <;> (first | rfl | simp)) | (simp [*]; done), by repeat (first | exact Drawn0.refl _ | apply Drawn0.step)⟩
                  · rw [if_neg c15] at H
                    exact absurd H (by simp)
                · rw [if_neg c13] at H
                  have c13b0 : decide (128 ≤ (bt a0 (ji9))) = false := decide_eq_false c13
                  clear c13
                  simp only [Option.some.injEq, Prod.mk.injEq] at H
                  obtain ⟨rfl, rfl⟩ := H
                  have p12 : 0 ≤ ((ji9) : Int) := of_decide_eq_true (by first | (with_reducible assumption) | assumption)
                  have q12 : (ji9) < (a0.size : Int) := of_decide_eq_true (by first | (with_reducible assumption) | assumption)
                  have hx12 := bt_at a0 (ji9)
                  replace p12 := eq_true p12
                  replace q12 := eq_true q12
                  go_wp2
                  go_ret2
                  exact ⟨by first | rfl | (simp; done) | (simp only [← hji9] <;> (first | rfl | simp)) | (simp [*]; done), by repeat (first | exact Drawn0.refl _ | apply Drawn0.step)⟩
              · rw [if_neg c11] at H
                exact absurd H (by simp)
            · rw [if_neg c10] at H
              exact absurd H (by simp)
          · rw [if_neg c8] at H
            have c8b0 : decide ((a0.size : Int) < 8) = false := decide_eq_false c8
            have c8b1 : decide (a0.size < 8) = false := decide_eq_false (by omega)
            clear c8
            simp only [Option.some.injEq, Prod.mk.injEq] at H
            obtain ⟨rfl, rfl⟩ := H
            go_wp2
            go_ret2
            exact ⟨by first | rfl | (simp; done) | (simp [*]; done), by repeat (first | exact Drawn0.refl _ | apply Drawn0.step)⟩
  · replace c3 := Bool.eq_false_iff.mpr c3
    subst c3
    have H1 : (some (0, 1)) = some (r1, r2) := by rw [if_neg (show ¬ (false = true) by decide)] at H; exact H
    clear H
    have H := H1
    clear H1
    simp only [Option.some.injEq, Prod.mk.injEq] at H
    obtain ⟨rfl, rfl⟩ := H
    go_enter Tryd.func29, Tryd.ntmps29
    go_wp2_with (first | ((with_reducible refine gate_callee (f := 30) rfl ?_); refine goesL_ (some 8) rfl rfl Tryd.func30 (by kernel_rfl) rfl #[.int .i64 (a0.size : Int)] rfl (by (try simp only [List.map_toArray, List.map_cons, List.map_nil]); first | done | rfl | (simp only [List.length_drop, List.length_take]; rfl)) ?_; (with_reducible refine (cotterref01_sized.calls (a0.size : Int) false _ A2.out).mono ?_); rintro e w' ⟨rfl, ⟨nd, rfl⟩⟩; refine ⟨_, rfl, ?_⟩))
    go_ret2
    exact ⟨by first | rfl | (simp; done) | (simp [*]; done), by repeat (first | exact Drawn0.refl _ | apply Drawn0.step)⟩

end Go.Proofs.YthmheblilgegcaaDoor.M
