/-
  Texts of the proofs of ObjfWrites, ObjfReads, ObjfBack, ObjfCuts, ObjfApart, cut to what the proofs reach and packed by a program of this session (wip/packs.py). Each part begins with what it says; conditions: those told there.
-/
import Derived.Test.YtilmndkbloodbaaPO6A4
-- Written by a program of this session (wip/ownprint.py) over the translation. Lean checks it.
namespace Go.Proofs.Ytilmndkbloodbaa.M
open Go.RowKit Go.Proofs.YtilmndkbloodbaaW.PrintWords Go.Proofs.YtilmndkbloodbaaW.PrintLast
set_option linter.unusedVariables false
set_option linter.unusedSimpArgs false

/-! ### word_Take: function 49 -/
mutual
def word_Take.j0 : Nat → ByteArray → Int → Bool → Option (Int × Int × Int)
  | 0, _, _, _ => none
  | k + 1, x0, x1, x17 => if x17 = true then (some (0, 0, 1)) else (word_Take.l0 k x0 x1 0 0)
def word_Take.l0 : Nat → ByteArray → Int → Int → Int → Option (Int × Int × Int)
  | 0, _, _, _, _ => none
  | k + 1, x0, x1, x7, x8 => if (wrap64 (x1 + x8)) < (x0.size : Int) then (if 0 ≤ (wrap64 (x1 + x8)) then (if x8 > 9 then (word_Take.j2 k x0 x1 x7 x8 (bt x0 (wrap64 (x1 + x8))) true) else (if x8 = 9 then (if (bt x0 (wrap64 (x1 + x8))) > 1 then (word_Take.j2 k x0 x1 x7 x8 (bt x0 (wrap64 (x1 + x8))) true) else (if x8 > 0 then (word_Take.j2 k x0 x1 x7 x8 (bt x0 (wrap64 (x1 + x8))) ((bt x0 (wrap64 (x1 + x8))) == 0)) else (word_Take.j2 k x0 x1 x7 x8 (bt x0 (wrap64 (x1 + x8))) false))) else (if x8 > 0 then (word_Take.j2 k x0 x1 x7 x8 (bt x0 (wrap64 (x1 + x8))) ((bt x0 (wrap64 (x1 + x8))) == 0)) else (word_Take.j2 k x0 x1 x7 x8 (bt x0 (wrap64 (x1 + x8))) false)))) else (none)) else (some (0, 0, 9))
def word_Take.j2 : Nat → ByteArray → Int → Int → Int → Int → Bool → Option (Int × Int × Int)
  | 0, _, _, _, _, _, _ => none
  | k + 1, x0, x1, x7, x8, x9, x48 => if x48 = true then (some (0, 0, 9)) else (if 0 ≤ (wrap64 (7 * x8)) then (if x9 < 128 then (some (Go.bits .or .u64 x7 (shl .u64 (IntKind.u64.wrap (Go.bits .and .u8 x9 127)) (wrap64 (7 * x8))), wrap64 ((wrap64 (x1 + x8)) + 1), 0)) else (word_Take.l0 k x0 x1 (Go.bits .or .u64 x7 (shl .u64 (IntKind.u64.wrap (Go.bits .and .u8 x9 127)) (wrap64 (7 * x8)))) (wrap64 (x8 + 1)))) else (none))
end
def word_Take.f (k : Nat) (a0 : ByteArray) (a1 : Int) : Option (Int × Int × Int) := if a1 < 0 then (word_Take.j0 k a0 a1 true) else (word_Take.j0 k a0 a1 (decide (a1 > (a0.size : Int))))
set_option maxHeartbeats 8000000 in
set_option maxRecDepth 100000 in
theorem word_Take.calls (k : Nat) (a0 : ByteArray) (a1 : Int) (r1 : Int) (r2 : Int) (r3 : Int) (w : World) (h : word_Take.f k a0 a1 = some (r1, r2, r3)) :
    Calls Try.prog 49 #[.string a0, .int .i64 a1] w fun e w' => e = .returned (.tuple #[.int .u64 r1, .int .i64 r2, .int .i64 r3]) ∧ Drawn0 w w' := by
  have H : (if a1 < 0 then (word_Take.j0 k a0 a1 true) else (word_Take.j0 k a0 a1 (decide (a1 > (a0.size : Int))))) = some (r1, r2, r3) := h
  clear h
  have HC3 := Aside0.mk H
  clear H
  go_enter Try.func49, Try.ntmps49
  go_upto_region 1 with (fail)
  go_cut [17] (fun v17 wc => ∃ (kq : Nat) (x17_2 : Bool), v17 = .bool x17_2 ∧ Aside0 (word_Take.j0 kq a0 a1 x17_2 = some (r1, r2, r3)) ∧ Aside0 (kq ≤ k) ∧ Drawn0 w wc)
  case first =>
    have H := HC3.out
    clear HC3
    by_cases c4 : a1 < 0
    · rw [if_pos c4] at H
      have c4b0 : decide (a1 < 0) = true := decide_eq_true c4
      clear c4
      (first | rw [c4b0] | (simp only [i64_w, i32_w]; rw [c4b0]) | skip)
      have H' := Aside0.mk H
      clear H
      go_wp2
      go_meet
      case rel => exact ⟨_, (true), (by first | rfl | (simp; done) | (simp [*]; done)), H', ⟨by first | omega | exact Nat.le_refl _⟩, by repeat (first | exact Drawn0.refl _ | apply Drawn0.step)⟩
    · rw [if_neg c4] at H
      have c4b0 : decide (a1 < 0) = false := decide_eq_false c4
      clear c4
      (first | rw [c4b0] | (simp only [i64_w, i32_w]; rw [c4b0]) | skip)
      have H' := Aside0.mk H
      clear H
      go_wp2
      go_meet
      case rel => exact ⟨_, (decide (a1 > (a0.size : Int))), (by first | rfl | (simp; done) | (simp [*]; done)), H', ⟨by first | omega | exact Nat.le_refl _⟩, by repeat (first | exact Drawn0.refl _ | apply Drawn0.step)⟩
  case rest =>
    clear HC3
    try clear p2
    try clear c4
    try clear c4b0
    obtain ⟨kq, x17_2, rfl, HA, HJ2, ⟨mc2, rfl⟩⟩ := hcut
    cases kq with
    | zero => exact absurd HA.out (by simp [word_Take.j0])
    | succ kj2 =>
      have H := HA.out
      clear HA
      simp only [word_Take.j0] at H
      by_cases c5 : x17_2 = true
      · subst c5
        have H1 : (some (0, 0, 1)) = some (r1, r2, r3) := by rw [if_pos rfl] at H; exact H
        clear H
        have H := H1
        clear H1
        simp only [Option.some.injEq, Prod.mk.injEq] at H
        obtain ⟨rfl, rfl, rfl⟩ := H
        go_wp2
        go_ret3
        exact ⟨by first | rfl | (simp; done) | (simp [*]; done), by repeat (first | exact Drawn0.refl _ | apply Drawn0.step)⟩
      · replace c5 := Bool.eq_false_iff.mpr c5
        subst c5
        have H1 : (word_Take.l0 kj2 a0 a1 0 0) = some (r1, r2, r3) := by rw [if_neg (show ¬ (false = true) by decide)] at H; exact H
        clear H
        have H := H1
        clear H1
        have H' := Aside0.mk H
        clear H
        go_wp2
        go_loopg [7, 8] kj2 (fun kq v7 v8 w' => ∃ (x7_2 : Int) (x8_2 : Int), v7 = .int .u64 x7_2 ∧ v8 = .int .i64 x8_2 ∧ Aside0 (word_Take.l0 kq a0 a1 x7_2 x8_2 = some (r1, r2, r3)) ∧ Aside0 (kq ≤ kj2) ∧ Drawn0 w w')
        case atStart => exact ⟨(0), (0), (by first | rfl | (simp; done) | (simp [*]; done)), (by first | rfl | (simp; done) | (simp [*]; done)), H', ⟨Nat.le_refl _⟩, by repeat (first | exact Drawn0.refl _ | apply Drawn0.step)⟩
        case round =>
          clear H'
          try clear c2
          try clear p2
          try clear c4
          try clear c4b0
          try clear c5
          try clear p2
          obtain ⟨x7_2, x8_2, rfl, rfl, HA, HK2, ⟨m2, rfl⟩⟩ := hrel
          cases gk with
          | zero => exact absurd HA.out (by simp [word_Take.l0])
          | succ k2 =>
            have H := HA.out
            clear HA
            simp only [word_Take.l0] at H
            by_cases c6 : (wrap64 (a1 + x8_2)) < (a0.size : Int)
            · rw [if_pos c6] at H
              have c6b0 : decide ((wrap64 (a1 + x8_2)) < (a0.size : Int)) = true := decide_eq_true c6
              clear c6
              obtain ⟨ji7, hji7⟩ : ∃ j_ : Int, (wrap64 (a1 + x8_2)) = j_ := ⟨_, rfl⟩
              replace H : (if 0 ≤ (ji7) then (if x8_2 > 9 then (word_Take.j2 k2 a0 a1 x7_2 x8_2 (bt a0 (ji7)) true) else (if x8_2 = 9 then (if (bt a0 (ji7)) > 1 then (word_Take.j2 k2 a0 a1 x7_2 x8_2 (bt a0 (ji7)) true) else (if x8_2 > 0 then (word_Take.j2 k2 a0 a1 x7_2 x8_2 (bt a0 (ji7)) ((bt a0 (ji7)) == 0)) else (word_Take.j2 k2 a0 a1 x7_2 x8_2 (bt a0 (ji7)) false))) else (if x8_2 > 0 then (word_Take.j2 k2 a0 a1 x7_2 x8_2 (bt a0 (ji7)) ((bt a0 (ji7)) == 0)) else (word_Take.j2 k2 a0 a1 x7_2 x8_2 (bt a0 (ji7)) false)))) else (none)) = some (r1, r2, r3) := by first | (rw [hji7] at H; exact H) | (simp only [hji7] at H ⊢; exact H)
              (try rw [hji7] at c6b0)
              have hji7w : (IntKind.i64.wrap (a1 + x8_2)) = ji7 := (i64_w _).trans hji7
              by_cases c8 : 0 ≤ (ji7)
              · rw [if_pos c8] at H
                have c8b0 : decide (0 ≤ (ji7)) = true := decide_eq_true c8
                clear c8
                have HC10 := Aside0.mk H
                clear H
                have p9 : 0 ≤ ((ji7) : Int) := of_decide_eq_true (by first | (with_reducible assumption) | assumption)
                have q9 : (ji7) < (a0.size : Int) := of_decide_eq_true (by first | (with_reducible assumption) | assumption)
                have hx9 := bt_at a0 (ji7)
                replace p9 := eq_true p9
                replace q9 := eq_true q9
                go_upto_region 8 with (fail)
                go_cut [48] (fun v48 wc => ∃ (kq : Nat) (x48_9 : Bool), v48 = .bool x48_9 ∧ Aside0 (word_Take.j2 kq a0 a1 x7_2 x8_2 (bt a0 (ji7)) x48_9 = some (r1, r2, r3)) ∧ Aside0 (kq ≤ k2) ∧ Drawn0 w wc)
                case first =>
                  have H := HC10.out
                  clear HC10
                  by_cases c11 : x8_2 > 9
                  · rw [if_pos c11] at H
                    have c11b0 : decide (9 < x8_2) = true := decide_eq_true c11
                    clear c11
                    (first | rw [c11b0] | (simp only [i64_w, i32_w]; rw [c11b0]) | skip)
                    have H' := Aside0.mk H
                    clear H
                    go_wp2
                    go_meet
                    case rel => exact ⟨_, (true), (by first | rfl | (simp; done) | (simp [*]; done)), H', ⟨by have := HJ2.out; have := HK2.out; first | omega | exact Nat.le_refl _⟩, by repeat (first | exact Drawn0.refl _ | apply Drawn0.step)⟩
                  · rw [if_neg c11] at H
                    have c11b0 : decide (9 < x8_2) = false := decide_eq_false c11
                    clear c11
                    (first | rw [c11b0] | (simp only [i64_w, i32_w]; rw [c11b0]) | skip)
                    by_cases c12 : x8_2 = 9
                    · rw [if_pos c12] at H
                      have c12b0 : (x8_2 == 9) = true := beq_iff_eq.mpr c12
                      have c12b1 : (x8_2 != 9) = false := bne_eq_false_iff_eq.mpr c12
                      clear c12
                      by_cases c13 : (bt a0 (ji7)) > 1
                      · rw [if_pos c13] at H
                        have c13b0 : decide (1 < (bt a0 (ji7))) = true := decide_eq_true c13
                        clear c13
                        have H' := Aside0.mk H
                        clear H
                        go_wp2
                        go_meet
                        case rel => exact ⟨_, (true), (by first | rfl | (simp; done) | (simp [*]; done)), H', ⟨by have := HJ2.out; have := HK2.out; first | omega | exact Nat.le_refl _⟩, by repeat (first | exact Drawn0.refl _ | apply Drawn0.step)⟩
                      · rw [if_neg c13] at H
                        have c13b0 : decide (1 < (bt a0 (ji7))) = false := decide_eq_false c13
                        clear c13
                        by_cases c14 : x8_2 > 0
                        · rw [if_pos c14] at H
                          have c14b0 : decide (0 < x8_2) = true := decide_eq_true c14
                          clear c14
                          have H' := Aside0.mk H
                          clear H
                          go_wp2
                          go_meet
                          case rel => exact ⟨_, (((bt a0 (ji7)) == 0)), (by first | rfl | (simp; done) | (simp only [← hji7] <;> (first | rfl | simp)) | (simp [*]; done)), H', ⟨by have := HJ2.out; have := HK2.out; first | omega | exact Nat.le_refl _⟩, by repeat (first | exact Drawn0.refl _ | apply Drawn0.step)⟩
                        · rw [if_neg c14] at H
                          have c14b0 : decide (0 < x8_2) = false := decide_eq_false c14
                          clear c14
                          have H' := Aside0.mk H
                          clear H
                          go_wp2
                          go_meet
                          case rel => exact ⟨_, (false), (by first | rfl | (simp; done) | (simp [*]; done)), H', ⟨by have := HJ2.out; have := HK2.out; first | omega | exact Nat.le_refl _⟩, by repeat (first | exact Drawn0.refl _ | apply Drawn0.step)⟩
                    · rw [if_neg c12] at H
                      have c12b0 : (x8_2 == 9) = false := beq_eq_false_iff_ne.mpr c12
                      have c12b1 : (x8_2 != 9) = true := bne_iff_ne.mpr c12
                      by_cases c15 : x8_2 > 0
                      · rw [if_pos c15] at H
                        have c15b0 : decide (0 < x8_2) = true := decide_eq_true c15
                        clear c15
                        have H' := Aside0.mk H
                        clear H
                        go_wp2
                        go_meet
                        case rel => exact ⟨_, (((bt a0 (ji7)) == 0)), (by first | rfl | (simp; done) | (simp only [← hji7] <;> (first | rfl | simp)) | (simp [*]; done)), H', ⟨by have := HJ2.out; have := HK2.out; first | omega | exact Nat.le_refl _⟩, by repeat (first | exact Drawn0.refl _ | apply Drawn0.step)⟩
                      · rw [if_neg c15] at H
                        have c15b0 : decide (0 < x8_2) = false := decide_eq_false c15
                        clear c15
                        have H' := Aside0.mk H
                        clear H
                        go_wp2
                        go_meet
                        case rel => exact ⟨_, (false), (by first | rfl | (simp; done) | (simp [*]; done)), H', ⟨by have := HJ2.out; have := HK2.out; first | omega | exact Nat.le_refl _⟩, by repeat (first | exact Drawn0.refl _ | apply Drawn0.step)⟩
                case rest =>
                  clear HC10
                  try clear c1
                  try clear c2
                  try clear p2
                  try clear c4
                  try clear c4b0
                  try clear c5
                  try clear c6
                  try clear c6b0
                  try clear p6
                  try clear c8
                  try clear c8b0
                  try clear p9
                  try clear q9
                  try clear hx9
                  try clear c11
                  try clear c11b0
                  try clear c12
                  try clear c12b0
                  try clear c12b1
                  try clear c13
                  try clear c13b0
                  try clear c14
                  try clear c14b0
                  try clear c15
                  try clear c15b0
                  try clear p2
                  try clear p9
                  try clear q9
                  obtain ⟨kq, x48_9, rfl, HA, HJ9, ⟨mc9, rfl⟩⟩ := hcut
                  cases kq with
                  | zero => exact absurd HA.out (by simp [word_Take.j2])
                  | succ kj9 =>
                    have H := HA.out
                    clear HA
                    simp only [word_Take.j2] at H
                    by_cases c16 : x48_9 = true
                    · subst c16
                      have H1 : (some (0, 0, 9)) = some (r1, r2, r3) := by rw [if_pos rfl] at H; exact H
                      clear H
                      have H := H1
                      clear H1
                      simp only [Option.some.injEq, Prod.mk.injEq] at H
                      obtain ⟨rfl, rfl, rfl⟩ := H
                      go_wp2
                      go_ret3
                      exact ⟨by first | rfl | (simp; done) | (simp only [← hji7] <;> (first | rfl | simp)) | (simp [*]; done), by repeat (first | exact Drawn0.refl _ | apply Drawn0.step)⟩
                    · replace c16 := Bool.eq_false_iff.mpr c16
                      subst c16
                      have H1 : (if 0 ≤ (wrap64 (7 * x8_2)) then (if (bt a0 (ji7)) < 128 then (some (Go.bits .or .u64 x7_2 (shl .u64 (IntKind.u64.wrap (Go.bits .and .u8 (bt a0 (ji7)) 127)) (wrap64 (7 * x8_2))), wrap64 ((wrap64 (a1 + x8_2)) + 1), 0)) else (word_Take.l0 kj9 a0 a1 (Go.bits .or .u64 x7_2 (shl .u64 (IntKind.u64.wrap (Go.bits .and .u8 (bt a0 (ji7)) 127)) (wrap64 (7 * x8_2)))) (wrap64 (x8_2 + 1)))) else (none)) = some (r1, r2, r3) := by rw [if_neg (show ¬ (false = true) by decide)] at H; exact H
                      clear H
                      have H := H1
                      clear H1
                      obtain ⟨ji17, hji17⟩ : ∃ j_ : Int, (wrap64 (7 * x8_2)) = j_ := ⟨_, rfl⟩
                      replace H : (if 0 ≤ (ji17) then (if (bt a0 (ji7)) < 128 then (some (Go.bits .or .u64 x7_2 (shl .u64 (IntKind.u64.wrap (Go.bits .and .u8 (bt a0 (ji7)) 127)) (ji17)), wrap64 ((wrap64 (a1 + x8_2)) + 1), 0)) else (word_Take.l0 kj9 a0 a1 (Go.bits .or .u64 x7_2 (shl .u64 (IntKind.u64.wrap (Go.bits .and .u8 (bt a0 (ji7)) 127)) (ji17))) (wrap64 (x8_2 + 1)))) else (none)) = some (r1, r2, r3) := by first | (rw [hji17] at H; exact H) | (simp only [hji17] at H ⊢; exact H)
                      have hji17w : (IntKind.i64.wrap (7 * x8_2)) = ji17 := (i64_w _).trans hji17
                      by_cases c18 : 0 ≤ (ji17)
                      · rw [if_pos c18] at H
                        have c18b0 := eq_true c18
                        have c18b1 : decide (0 ≤ (ji17)) = true := decide_eq_true c18
                        clear c18
                        obtain ⟨ji19, hji19⟩ : ∃ j_ : Int, (shl .u64 (IntKind.u64.wrap (Go.bits .and .u8 (bt a0 (ji7)) 127)) (ji17)) = j_ := ⟨_, rfl⟩
                        replace H : (if (bt a0 (ji7)) < 128 then (some (Go.bits .or .u64 x7_2 (ji19), wrap64 ((wrap64 (a1 + x8_2)) + 1), 0)) else (word_Take.l0 kj9 a0 a1 (Go.bits .or .u64 x7_2 (ji19)) (wrap64 (x8_2 + 1)))) = some (r1, r2, r3) := by first | (rw [hji19] at H; exact H) | (simp only [hji19] at H ⊢; exact H)
                        have hji19_ : (IntKind.u64.wrap ((IntKind.u64.wrap (Go.bits .and .u8 (bt a0 (ji7)) 127)) * 2 ^ min (ji17).toNat 64)) = ji19 := hji19
                        have hji19z : (ji17) ≤ 64 → (IntKind.u64.wrap ((IntKind.u64.wrap (Go.bits .and .u8 (bt a0 (ji7)) 127)) * 2 ^ (ji17).toNat)) = ji19 := shl_small hji19
                        by_cases c20 : (bt a0 (ji7)) < 128
                        · rw [if_pos c20] at H
                          have c20b0 : decide ((bt a0 (ji7)) < 128) = true := decide_eq_true c20
                          clear c20
                          simp only [Option.some.injEq, Prod.mk.injEq] at H
                          obtain ⟨rfl, rfl, rfl⟩ := H
                          go_wp2
                          go_ret3
                          exact ⟨by first | rfl | (simp; done) | (simp only [← hji7, ← hji17, ← hji19] <;> (first | rfl | simp)) | (simp [*]; done), by repeat (first | exact Drawn0.refl _ | apply Drawn0.step)⟩
                        · rw [if_neg c20] at H
                          have c20b0 : decide ((bt a0 (ji7)) < 128) = false := decide_eq_false c20
                          clear c20
                          have H' := Aside0.mk H
                          clear H
                          go_wp2
                          go_roundg kj9
                          case measure => have := HJ2.out; have := HK2.out; have := HJ9.out; omega
                          case rel => exact ⟨(Go.bits .or .u64 x7_2 (ji19)), (wrap64 (x8_2 + 1)), (by first | rfl | (simp; done) | (simp only [← hji19] <;> (first | rfl | simp)) | (simp [*]; done)), (by first | rfl | (simp; done) | (simp [*]; done)), H', ⟨by have := HJ2.out; have := HK2.out; have := HJ9.out; omega⟩, by repeat (first | exact Drawn0.refl _ | apply Drawn0.step)⟩
                      · rw [if_neg c18] at H
                        exact absurd H (by simp)
              · rw [if_neg c8] at H
                exact absurd H (by simp)
            · rw [if_neg c6] at H
              have c6b0 : decide ((wrap64 (a1 + x8_2)) < (a0.size : Int)) = false := decide_eq_false c6
              clear c6
              simp only [Option.some.injEq, Prod.mk.injEq] at H
              obtain ⟨rfl, rfl, rfl⟩ := H
              go_wp2
              go_ret3
              exact ⟨by first | rfl | (simp; done) | (simp [*]; done), by repeat (first | exact Drawn0.refl _ | apply Drawn0.step)⟩

/-! ### word_Number: function 50 -/
def word_Number.l0 : Nat → ByteArray → Int → Int → Int → Option (Int × Int)
  | 0, _, _, _, _ => none
  | k + 1, x0, x4, x7, x8 => if x8 < x7 then (if 0 ≤ x8 then (if x8 < (x0.size : Int) then (if 0 ≤ (wrap64 (8 * x8)) then (word_Number.l0 k x0 (Go.bits .or .i64 x4 (shl .i64 (wrap64 (bt x0 x8)) (wrap64 (8 * x8)))) x7 (wrap64 (x8 + 1))) else (none)) else (none)) else (none)) else (if (x0.size : Int) = 1 then (some (wrap64 (IntKind.i8.wrap (x4)), 0)) else (if (x0.size : Int) = 4 then (some (wrap64 (wrap32 (x4)), 0)) else (if (x0.size : Int) = 8 then (some (x4, 0)) else (some (0, 1)))))
def word_Number.f (k : Nat) (a0 : ByteArray) : Option (Int × Int) := word_Number.l0 k a0 0 (a0.size : Int) 0
set_option maxHeartbeats 8000000 in
set_option maxRecDepth 100000 in
theorem word_Number.calls (k : Nat) (a0 : ByteArray) (r1 : Int) (r2 : Int) (w : World) (h : word_Number.f k a0 = some (r1, r2)) :
    Calls Try.prog 50 #[.string a0] w fun e w' => e = .returned (.tuple #[.int .i64 r1, .int .i64 r2]) ∧ Drawn0 w w' := by
  have H : (word_Number.l0 k a0 0 (a0.size : Int) 0) = some (r1, r2) := h
  clear h
  have H' := Aside0.mk H
  clear H
  go_enter Try.func50, Try.ntmps50
  go_wp2
  go_loopg [4, 8] k (fun kq v4 v8 w' => ∃ (x4_1 : Int) (x8_1 : Int), v4 = .int .i64 x4_1 ∧ v8 = .int .i64 x8_1 ∧ Aside0 (word_Number.l0 kq a0 x4_1 (a0.size : Int) x8_1 = some (r1, r2)) ∧ Aside0 (kq ≤ k) ∧ Drawn0 w w')
  case atStart => exact ⟨(0), (0), (by first | rfl | (simp; done) | (simp [*]; done)), (by first | rfl | (simp; done) | (simp [*]; done)), H', ⟨Nat.le_refl _⟩, by repeat (first | exact Drawn0.refl _ | apply Drawn0.step)⟩
  case round =>
    clear H'
    obtain ⟨x4_1, x8_1, rfl, rfl, HA, HK1, ⟨m1, rfl⟩⟩ := hrel
    cases gk with
    | zero => exact absurd HA.out (by simp [word_Number.l0])
    | succ k1 =>
      have H := HA.out
      clear HA
      simp only [word_Number.l0] at H
      by_cases c2 : x8_1 < (a0.size : Int)
      · rw [if_pos c2] at H
        have c2b0 : decide (x8_1 < (a0.size : Int)) = true := decide_eq_true c2
        clear c2
        by_cases c3 : 0 ≤ x8_1
        · rw [if_pos c3] at H
          have c3b0 : decide (0 ≤ x8_1) = true := decide_eq_true c3
          clear c3
          by_cases c4 : x8_1 < (a0.size : Int)
          · rw [if_pos c4] at H
            have c4b0 : decide (x8_1 < (a0.size : Int)) = true := decide_eq_true c4
            clear c4
            obtain ⟨ji6, hji6⟩ : ∃ j_ : Int, (wrap64 (8 * x8_1)) = j_ := ⟨_, rfl⟩
            replace H : (if 0 ≤ (ji6) then (word_Number.l0 k1 a0 (Go.bits .or .i64 x4_1 (shl .i64 (wrap64 (bt a0 x8_1)) (ji6))) (a0.size : Int) (wrap64 (x8_1 + 1))) else (none)) = some (r1, r2) := by first | (rw [hji6] at H; exact H) | (simp only [hji6] at H ⊢; exact H)
            have hji6w : (IntKind.i64.wrap (8 * x8_1)) = ji6 := (i64_w _).trans hji6
            by_cases c7 : 0 ≤ (ji6)
            · rw [if_pos c7] at H
              have c7b0 := eq_true c7
              have c7b1 : decide (0 ≤ (ji6)) = true := decide_eq_true c7
              clear c7
              obtain ⟨ji8, hji8⟩ : ∃ j_ : Int, (shl .i64 (wrap64 (bt a0 x8_1)) (ji6)) = j_ := ⟨_, rfl⟩
              replace H : (word_Number.l0 k1 a0 (Go.bits .or .i64 x4_1 (ji8)) (a0.size : Int) (wrap64 (x8_1 + 1))) = some (r1, r2) := by first | (rw [hji8] at H; exact H) | (simp only [hji8] at H ⊢; exact H)
              have hji8_ : (IntKind.i64.wrap ((wrap64 (bt a0 x8_1)) * 2 ^ min (ji6).toNat 64)) = ji8 := hji8
              have hji8z : (ji6) ≤ 64 → (IntKind.i64.wrap ((wrap64 (bt a0 x8_1)) * 2 ^ (ji6).toNat)) = ji8 := shl_small hji8
              have hji8y : (wrap64 ((wrap64 (bt a0 x8_1)) * 2 ^ min (ji6).toNat 64)) = ji8 := (i64_w _).symm.trans hji8_
              have hji8x : (ji6) ≤ 64 → (wrap64 ((wrap64 (bt a0 x8_1)) * 2 ^ (ji6).toNat)) = ji8 := fun h_ => (i64_w _).symm.trans (hji8z h_)
              have H' := Aside0.mk H
              clear H
              have p5 : 0 ≤ (x8_1 : Int) := of_decide_eq_true (by first | (with_reducible assumption) | assumption)
              have q5 : x8_1 < (a0.size : Int) := of_decide_eq_true (by first | (with_reducible assumption) | assumption)
              have hx5 := bt_at a0 x8_1
              replace p5 := eq_true p5
              replace q5 := eq_true q5
              go_wp2
              go_roundg k1
              case measure => have := HK1.out; omega
              case rel => exact ⟨(Go.bits .or .i64 x4_1 (ji8)), (wrap64 (x8_1 + 1)), (by first | rfl | (simp; done) | (simp only [← hji8] <;> (first | rfl | simp)) | (simp [*]; done)), (by first | rfl | (simp; done) | (simp [*]; done)), H', ⟨by have := HK1.out; omega⟩, by repeat (first | exact Drawn0.refl _ | apply Drawn0.step)⟩
            · rw [if_neg c7] at H
              exact absurd H (by simp)
          · rw [if_neg c4] at H
            exact absurd H (by simp)
        · rw [if_neg c3] at H
          exact absurd H (by simp)
      · rw [if_neg c2] at H
        have c2b0 : decide (x8_1 < (a0.size : Int)) = false := decide_eq_false c2
        clear c2
        by_cases c9 : (a0.size : Int) = 1
        · rw [if_pos c9] at H
          have c9b0 : ((a0.size : Int) == 1) = true := beq_iff_eq.mpr c9
          have c9b1 : ((a0.size : Int) != 1) = false := bne_eq_false_iff_eq.mpr c9
          clear c9
          simp only [Option.some.injEq, Prod.mk.injEq] at H
          obtain ⟨rfl, rfl⟩ := H
          go_wp2
          go_ret2
          exact ⟨by first | rfl | (simp; done) | (simp [*]; done), by repeat (first | exact Drawn0.refl _ | apply Drawn0.step)⟩
        · rw [if_neg c9] at H
          have c9b0 : ((a0.size : Int) == 1) = false := beq_eq_false_iff_ne.mpr c9
          have c9b1 : ((a0.size : Int) != 1) = true := bne_iff_ne.mpr c9
          by_cases c10 : (a0.size : Int) = 4
          · rw [if_pos c10] at H
            have c10b0 : ((a0.size : Int) == 4) = true := beq_iff_eq.mpr c10
            have c10b1 : ((a0.size : Int) != 4) = false := bne_eq_false_iff_eq.mpr c10
            clear c10
            simp only [Option.some.injEq, Prod.mk.injEq] at H
            obtain ⟨rfl, rfl⟩ := H
            go_wp2
            go_ret2
            exact ⟨by first | rfl | (simp; done) | (simp [*]; done), by repeat (first | exact Drawn0.refl _ | apply Drawn0.step)⟩
          · rw [if_neg c10] at H
            have c10b0 : ((a0.size : Int) == 4) = false := beq_eq_false_iff_ne.mpr c10
            have c10b1 : ((a0.size : Int) != 4) = true := bne_iff_ne.mpr c10
            by_cases c11 : (a0.size : Int) = 8
            · rw [if_pos c11] at H
              have c11b0 : ((a0.size : Int) == 8) = true := beq_iff_eq.mpr c11
              have c11b1 : ((a0.size : Int) != 8) = false := bne_eq_false_iff_eq.mpr c11
              clear c11
              simp only [Option.some.injEq, Prod.mk.injEq] at H
              obtain ⟨rfl, rfl⟩ := H
              go_wp2
              go_ret2
              exact ⟨by first | rfl | (simp; done) | (simp [*]; done), by repeat (first | exact Drawn0.refl _ | apply Drawn0.step)⟩
            · rw [if_neg c11] at H
              have c11b0 : ((a0.size : Int) == 8) = false := beq_eq_false_iff_ne.mpr c11
              have c11b1 : ((a0.size : Int) != 8) = true := bne_iff_ne.mpr c11
              simp only [Option.some.injEq, Prod.mk.injEq] at H
              obtain ⟨rfl, rfl⟩ := H
              go_wp2
              go_ret2
              exact ⟨by first | rfl | (simp; done) | (simp [*]; done), by repeat (first | exact Drawn0.refl _ | apply Drawn0.step)⟩

end Go.Proofs.Ytilmndkbloodbaa.M

/-
  What word.put, Put, All and Take answer, said by plain functions on lists of bytes. Conditions: numbers of 64 bits without a sign; lists small enough.
-/
namespace Go.Proofs.Ytilmndkbloodbaa.Word1
open Go.RowKit Go.Proofs.Ytilmndkbloodbaa.M Go.Proofs.Ytilmndkbloodbaa.Num Go.Proofs.Ytilmndkbloodbaa.Seven Go.Proofs.YtilmndkbloodbaaW.PrintWords Go.Proofs.YtilmndkbloodbaaW.PrintLast

theorem or128 (v : Nat) : bits .or .u8 ((v : Int) % 256) 128 = ((v % 128 + 128 : Nat) : Int) := by
  have key : ∀ w : Fin 256, bits .or .u8 (w.val : Int) 128 = ((w.val % 128 + 128 : Nat) : Int) := by decide +kernel
  have h := key ⟨v % 256, Nat.mod_lt _ (by decide)⟩
  simp only at h
  have e : (((v % 256 : Nat)) : Int) = (v : Int) % 256 := by omega
  rw [e] at h
  rw [h]
  congr 1
  omega

theorem put_l0 : ∀ (n k u : Nat) (x : List Int), u < 128 ^ (n + 1) → x.length + n < 140737488355328 → n < k → word_put.l0 k x u = some (x ++ putL u) := by
  intro n
  induction n with
  | zero =>
    intro k u x hu hx hk
    obtain ⟨k, rfl⟩ : ∃ m, k = m + 1 := ⟨k - 1, by omega⟩
    simp only [word_put.l0]
    rw [if_neg (by omega), if_pos (by omega), putL_small (by omega)]
    congr 3
    omega
  | succ n ih =>
    intro k u x hu hx hk
    obtain ⟨k, rfl⟩ : ∃ m, k = m + 1 := ⟨k - 1, by omega⟩
    simp only [word_put.l0]
    by_cases h : u < 128
    · rw [if_neg (by omega), if_pos (by omega), putL_small h]
      congr 3
      omega
    · rw [if_pos (by omega), if_pos (by omega)]
      have h2 : u / 128 < 128 ^ (n + 1) := by rw [Nat.div_lt_iff_lt_mul (by decide)]; rw [Nat.pow_succ] at hu; exact hu
      have e : (u : Int) / 128 = ((u / 128 : Nat) : Int) := by omega
      rw [e, ih k (u / 128) _ h2 (by simp; omega) (by omega), putL_great h, or128]
      simp

theorem put_f {k u : Nat} {x : List Int} (hu : u < 18446744073709551616) (hx : x.length + 9 < 140737488355328) (hk : 9 < k) : word_put.f k x u = some (x ++ putL u) := by
  unfold word_put.f
  exact put_l0 9 k u x (by omega) hx hk

theorem Put_f {k u : Nat} (hu : u < 18446744073709551616) (hk : 9 < k) : word_Put.f k u = some (strOfNums (putL u)) := by
  unfold word_Put.f
  rw [put_f hu (by simp) hk]
  rfl

def Us (l : List Int) : Prop := ∀ x ∈ l, 0 ≤ x ∧ x < 18446744073709551616
theorem Us.drop {l : List Int} (h : Us l) (n : Nat) : Us (l.drop n) := fun x hx => h x (List.mem_of_mem_drop hx)

/-- What Take answers: by the bytes from the place on. -/
def takeR (s : ByteArray) (at_ : Int) : Int × Int × Int :=
  if at_ < 0 ∨ at_ > s.size then (0, 0, 1) else match takeL ((bytesOf s).drop at_.toNat) 0 with
  | none => (0, 0, 9)
  | some (v, n) => (v, at_ + n, 0)

theorem and127 (b : Int) (h0 : 0 ≤ b) (h1 : b < 256) : IntKind.u64.wrap (bits .and .u8 b 127) = b % 128 := by
  have h := bits_mask .u8 8 (by decide) wraps_u8 7 (by decide) b h0 (by omega)
  have e : (2 : Int) ^ 7 - 1 = 127 := by decide
  have e2 : (2 : Int) ^ 7 = 128 := by decide
  rw [e, e2] at h
  rw [h, wrap_u64]
  omega

theorem p2 (n : Nat) : (0 : Int) < 2 ^ n := by
  have h2 : ((2 ^ n : Nat) : Int) = (2 : Int) ^ n := by simp
  have h3 := Nat.two_pow_pos n
  omega
theorem e64 : (2 : Int) ^ 64 = 18446744073709551616 := by decide

theorem shl_u64_small (x y : Int) (i : Nat) (hy : y = 7 * i) (hi : i ≤ 9) (h0 : 0 ≤ x) (h1 : x * 2 ^ (7 * i) < 18446744073709551616) : shl .u64 x y = x * 2 ^ (7 * i) := by
  subst hy
  unfold shl
  have e : (7 * (i : Int)).toNat = 7 * i := by omega
  have hm : min (7 * i) IntKind.u64.bits = 7 * i := Nat.min_eq_left (by have : IntKind.u64.bits = 64 := rfl; omega)
  rw [e, hm, wrap_u64]
  have hp : (0 : Int) ≤ 2 ^ (7 * i) := Int.le_of_lt (p2 _)
  have := Int.mul_nonneg h0 hp
  omega

theorem or_u64 (u c : Int) (i : Nat) (hu : 0 ≤ u) (hu1 : u < 2 ^ (7 * i)) (hc : 0 ≤ c) (hc1 : c * 2 ^ (7 * i) < 18446744073709551616) (hs : u + c * 2 ^ (7 * i) < 18446744073709551616) :
    bits .or .u64 u (c * 2 ^ (7 * i)) = u + c * 2 ^ (7 * i) := by
  have hp : (0 : Int) ≤ 2 ^ (7 * i) := Int.le_of_lt (p2 _)
  have hm := Int.mul_nonneg hc hp
  rw [bits_or_comm]
  have h := bits_join .u64 64 (by decide) (fun n h0 h1 => wrap_u64_id h0 (by rw [e64] at h1; exact h1)) (7 * i) (c * 2 ^ (7 * i)) u hm (Int.mul_emod_left _ _) (by rw [e64]; exact hc1) hu hu1 (by rw [e64]; omega)
  rw [h]
  omega

theorem take_fits {b : Int} {i : Nat} {u : Int} (h0 : 0 ≤ b) (h1 : b < 256) (hi : i ≤ 9) (h9 : i = 9 → b ≤ 1) (hu : 0 ≤ u) (hu1 : u < 2 ^ (7 * i)) :
    b % 128 * 2 ^ (7 * i) < 18446744073709551616 ∧ u + b % 128 * 2 ^ (7 * i) < 18446744073709551616 ∧ (i ≤ 8 → u + b % 128 * 2 ^ (7 * i) < 2 ^ (7 * (i + 1))) ∧ 0 ≤ u + b % 128 * 2 ^ (7 * i) := by
  have hp : (0 : Int) < 2 ^ (7 * i) := by
    have h2 : ((2 ^ (7 * i) : Nat) : Int) = (2 : Int) ^ (7 * i) := by simp
    have h3 := Nat.two_pow_pos (7 * i)
    omega
  have e : (2 : Int) ^ (7 * (i + 1)) = 128 * 2 ^ (7 * i) := by rw [Nat.mul_add, Int.pow_add]; omega
  have hm := Int.mul_nonneg (show 0 ≤ b % 128 by omega) (Int.le_of_lt hp)
  have g := Int.mul_le_mul_of_nonneg_right (show b % 128 ≤ 127 by omega) (Int.le_of_lt hp)
  by_cases hi9 : i = 9
  · subst hi9
    have e63 : (2 : Int) ^ (7 * 9) = 9223372036854775808 := by decide
    have := h9 rfl
    rw [e63] at *
    refine ⟨by omega, by omega, fun h => by omega, by omega⟩
  · have hp8 : (2 : Int) ^ (7 * i) ≤ 72057594037927936 := by
      have h1 : 2 ^ (7 * i) ≤ 2 ^ 56 := Nat.pow_le_pow_right (by decide) (by omega)
      have h2 : ((2 ^ (7 * i) : Nat) : Int) = (2 : Int) ^ (7 * i) := by simp
      have h3 : (2 : Nat) ^ 56 = 72057594037927936 := by decide
      rw [h3] at h1
      omega
    rw [e]
    generalize (2 : Int) ^ (7 * i) = P at *
    generalize b % 128 * P = m at *
    refine ⟨by omega, by omega, fun _ => by omega, by omega⟩

/-- What a loop over the groups comes to, from the group number i on, with u so far. -/
def restR (s : ByteArray) (at_ i : Nat) (u : Int) : Int × Int × Int :=
  match takeL ((bytesOf s).drop (at_ + i)) i with
  | none => (0, 0, 9)
  | some (v, n) => (u + v * 2 ^ (7 * i), ((at_ + i + n : Nat) : Int), 0)

theorem restR_end {s : ByteArray} {at_ i : Nat} {u : Int} (h : ¬ at_ + i < s.size) : restR s at_ i u = (0, 0, 9) := by
  unfold restR
  rw [List.drop_eq_nil_of_le (by rw [bytesOf_length]; omega)]
  rfl
theorem restR_bad {s : ByteArray} {at_ i : Nat} {u : Int} (hlt : at_ + i < s.size) (h : i > 9 ∨ (i = 9 ∧ bt s (at_ + i : Nat) > 1) ∨ (i > 0 ∧ bt s (at_ + i : Nat) = 0)) : restR s at_ i u = (0, 0, 9) := by
  unfold restR
  rw [bt_drop s _ hlt]
  simp only [takeL]
  rw [if_pos h]
theorem restR_last {s : ByteArray} {at_ i : Nat} {u : Int} (hlt : at_ + i < s.size) (h : ¬ (i > 9 ∨ (i = 9 ∧ bt s (at_ + i : Nat) > 1) ∨ (i > 0 ∧ bt s (at_ + i : Nat) = 0))) (hb : bt s (at_ + i : Nat) < 128) :
    restR s at_ i u = (u + bt s (at_ + i : Nat) * 2 ^ (7 * i), ((at_ + i + 1 : Nat) : Int), 0) := by
  unfold restR
  rw [bt_drop s _ hlt]
  simp only [takeL]
  rw [if_neg h, if_pos hb]
theorem restR_step {s : ByteArray} {at_ i : Nat} {u : Int} (hlt : at_ + i < s.size) (h : ¬ (i > 9 ∨ (i = 9 ∧ bt s (at_ + i : Nat) > 1) ∨ (i > 0 ∧ bt s (at_ + i : Nat) = 0))) (hb : ¬ bt s (at_ + i : Nat) < 128) :
    restR s at_ i u = restR s at_ (i + 1) (u + (bt s (at_ + i : Nat) - 128) * 2 ^ (7 * i)) := by
  unfold restR
  rw [bt_drop s _ hlt]
  simp only [takeL]
  rw [if_neg h, if_neg hb, show at_ + (i + 1) = at_ + i + 1 by omega]
  cases takeL ((bytesOf s).drop (at_ + i + 1)) (i + 1) with
  | none => rfl
  | some p =>
    simp only [Option.map_some]
    have e : (2 : Int) ^ (7 * (i + 1)) = 128 * 2 ^ (7 * i) := by rw [Nat.mul_add, Int.pow_add]; omega
    rw [e, Int.add_mul, Int.add_assoc, Int.mul_assoc 128, Int.mul_left_comm 128 p.1, show at_ + i + (p.2 + 1) = at_ + i + 1 + p.2 by omega]

theorem take_l0 (s : ByteArray) (at_ : Nat) (hs : s.size ≤ 281474976710656) (hat : at_ ≤ s.size) : ∀ (d k i : Nat) (u : Int), 10 - i = d → i ≤ 10 → 0 ≤ u → (i ≤ 9 → u < 2 ^ (7 * i)) → 2 * d + 2 < k →
    word_Take.l0 k s at_ u i = some (restR s at_ i u) := by
  intro d
  induction d with
  | zero =>
    intro k i u hd hi hu hu1 hk
    obtain ⟨k, rfl⟩ : ∃ m, k = m + 2 := ⟨k - 2, by omega⟩
    obtain rfl : i = 10 := by omega
    simp only [word_Take.l0]
    rw [wrap64_id (by omega) (by omega)]
    by_cases hlt : at_ + 10 < s.size
    · rw [if_pos (by omega), if_pos (by omega), if_pos (by omega), restR_bad hlt (.inl (by omega))]
      simp [word_Take.j2]
    · rw [if_neg (by omega), restR_end hlt]
  | succ d ih =>
    intro k i u hd hi hu hu1 hk
    obtain ⟨k, rfl⟩ : ∃ m, k = m + 2 := ⟨k - 2, by omega⟩
    simp only [word_Take.l0]
    have ew : wrap64 ((at_ : Int) + i) = ((at_ + i : Nat) : Int) := by rw [wrap64_id (by omega) (by omega)]; omega
    rw [ew]
    by_cases hlt : at_ + i < s.size
    · rw [if_pos (by omega), if_pos (by omega), if_neg (by omega)]
      have hbr := bt_range s (at_ + i : Nat)
      have hb7 : wrap64 (7 * (i : Int)) = 7 * i := wrap64_id (by omega) (by omega)
      have hu9 := hu1 (by omega)
      -- the one form in which all ways meet
      have good : ∀ (c : Bool), (c = true ↔ (i = 9 ∧ bt s (at_ + i : Nat) > 1) ∨ (i > 0 ∧ bt s (at_ + i : Nat) = 0)) → word_Take.j2 (k + 1) s at_ u i (bt s (at_ + i : Nat)) c = some (restR s at_ i u) := by
        intro c hc
        simp only [word_Take.j2, hb7]
        by_cases hbad : c = true
        · rw [if_pos hbad, restR_bad hlt (.inr (hc.1 hbad))]
        · have hno : ¬ (i > 9 ∨ (i = 9 ∧ bt s (at_ + i : Nat) > 1) ∨ (i > 0 ∧ bt s (at_ + i : Nat) = 0)) := by
            intro h
            rcases h with h | h
            · omega
            · exact hbad (hc.2 h)
          obtain ⟨f1, f2, f3, f4⟩ := take_fits (b := bt s (at_ + i : Nat)) (i := i) (u := u) (by omega) (by omega) (by omega) (by intro h; omega) hu hu9
          rw [if_neg hbad, if_pos (by omega), and127 _ (by omega) (by omega), shl_u64_small _ _ i rfl (by omega) (by omega) f1, or_u64 u _ i hu hu9 (by omega) f1 f2, ew]
          by_cases hl : bt s (at_ + i : Nat) < 128
          · rw [if_pos hl, restR_last hlt hno hl, wrap64_id (by omega) (by omega), show bt s (at_ + i : Nat) % 128 = bt s (at_ + i : Nat) by omega]
            congr 3
          · rw [if_neg hl, restR_step hlt hno hl, wrap64_id (by omega) (by omega), show ((i : Int) + 1) = ((i + 1 : Nat) : Int) by omega, show bt s (at_ + i : Nat) % 128 = bt s (at_ + i : Nat) - 128 by omega]
            rw [show bt s (at_ + i : Nat) % 128 = bt s (at_ + i : Nat) - 128 by omega] at f3 f4
            exact ih k (i + 1) _ (by omega) (by omega) f4 (fun h => f3 (by omega)) (by omega)
      by_cases h9 : i = 9
      · rw [if_pos (by omega)]
        by_cases hb1 : bt s (at_ + i : Nat) > 1
        · rw [if_pos hb1]; exact good true (by simp only [true_iff]; omega)
        · rw [if_neg hb1, if_pos (by omega)]; exact good _ (by simp only [beq_iff_eq]; omega)
      · rw [if_neg (by omega)]
        by_cases h0 : i > 0
        · rw [if_pos (by omega)]; exact good _ (by simp only [beq_iff_eq]; omega)
        · rw [if_neg (by omega)]; exact good false (by simp only [Bool.false_eq_true, false_iff]; omega)
    · rw [if_neg (by omega), restR_end hlt]

theorem restR_zero (s : ByteArray) (at_ : Nat) (h : at_ ≤ s.size) : restR s at_ 0 0 = takeR s at_ := by
  unfold restR takeR
  rw [if_neg (by omega), Nat.add_zero, Int.toNat_natCast]
  cases takeL ((bytesOf s).drop at_) 0 with
  | none => rfl
  | some p => simp

theorem take_f (s : ByteArray) (at_ : Int) (hs : s.size ≤ 281474976710656) (k : Nat) (hk : 24 < k) : word_Take.f k s at_ = some (takeR s at_) := by
  obtain ⟨k, rfl⟩ : ∃ m, k = m + 1 := ⟨k - 1, by omega⟩
  unfold word_Take.f
  by_cases h0 : at_ < 0
  · rw [if_pos h0]
    simp [word_Take.j0, takeR, h0]
  · rw [if_neg h0]
    by_cases h1 : at_ > (s.size : Int)
    · have e : decide (at_ > (s.size : Int)) = true := decide_eq_true h1
      rw [e]
      unfold takeR
      rw [if_pos (.inr h1)]
      simp [word_Take.j0]
    · have e : decide (at_ > (s.size : Int)) = false := decide_eq_false h1
      rw [e]
      simp only [word_Take.j0, Bool.false_eq_true, if_false]
      obtain ⟨a, rfl⟩ := Int.eq_ofNat_of_zero_le (show 0 ≤ at_ by omega)
      rw [← restR_zero s a (by omega)]
      exact take_l0 s a hs (by omega) 10 k 0 0 (by omega) (by omega) (by omega) (by simp) (by omega)

end Go.Proofs.Ytilmndkbloodbaa.Word1

/-
  What word.Bytes and word.Number answer, said by plain functions. Conditions: a number of 64 bits with a sign; a text of at most 2^47 bytes.
-/
namespace Go.Proofs.Ytilmndkbloodbaa.Word1
open Go.RowKit Go.Proofs.Ytilmndkbloodbaa.M Go.Proofs.Ytilmndkbloodbaa.Num Go.Proofs.Ytilmndkbloodbaa.Seven Go.Proofs.YtilmndkbloodbaaW.PrintWords Go.Proofs.YtilmndkbloodbaaW.PrintLast

def Fits (n size : Int) : Prop := size = 1 ∧ -128 ≤ n ∧ n < 128 ∨ size = 4 ∧ -2147483648 ≤ n ∧ n < 2147483648 ∨ size = 8
instance (n size : Int) : Decidable (Fits n size) := by unfold Fits; exact inferInstance
/-- What Bytes answers. -/
def bytesR (n size : Int) : ByteArray × Int :=
  if size = 1 ∨ size = 4 ∨ size = 8 then if Fits n size then (strOfNums (leL n size.toNat), 0) else (⟨#[]⟩, 7) else (⟨#[]⟩, 1)

theorem shr_bytes (n : Int) (i : Nat) (h : i ≤ 8) : shr .i64 n (8 * (i : Int)) = n / 256 ^ i := by
  unfold shr
  have e : (8 * (i : Int)).toNat = 8 * i := by omega
  have hm : min (8 * i) IntKind.i64.bits = 8 * i := Nat.min_eq_left (by have : IntKind.i64.bits = 64 := rfl; omega)
  rw [e, hm, Int.pow_mul]
  rfl

theorem bytes_l0 (n : Int) (s : Nat) (hs : s ≤ 8) : ∀ (d k i : Nat), s - i = d → i ≤ s → d < k →
    word_Bytes.l0 k n (leL n i ++ List.replicate (s - i) 0) (s : Int) i = some (strOfNums (leL n s), 0) := by
  intro d
  induction d with
  | zero =>
    intro k i hd hi hk
    obtain ⟨k, rfl⟩ : ∃ m, k = m + 1 := ⟨k - 1, by omega⟩
    obtain rfl : i = s := by omega
    simp only [word_Bytes.l0]
    rw [if_neg (by omega), Nat.sub_self]
    simp
  | succ d ih =>
    intro k i hd hi hk
    obtain ⟨k, rfl⟩ : ∃ m, k = m + 1 := ⟨k - 1, by omega⟩
    simp only [word_Bytes.l0]
    have hw : wrap64 (8 * (i : Int)) = 8 * i := wrap64_id (by omega) (by omega)
    have hl : (leL n i ++ List.replicate (s - i) 0).length = s := by rw [List.length_append, leL_len, List.length_replicate]; omega
    rw [hw, hl, if_pos (by omega), if_pos (by omega), if_pos (by omega), if_pos (by omega), shr_bytes n i (by omega), wrap64_id (by omega) (by omega), show ((i : Int) + 1) = ((i + 1 : Nat) : Int) by omega]
    have e : (leL n i ++ List.replicate (s - i) 0).set (i : Int).toNat (n / 256 ^ i % 256) = leL n (i + 1) ++ List.replicate (s - (i + 1)) 0 := by
      rw [Int.toNat_natCast, List.set_append_right _ _ (by rw [leL_len]; exact Nat.le_refl _), leL_len, Nat.sub_self, show s - i = (s - (i + 1)) + 1 by omega, List.replicate_succ, List.set_cons_zero, leL_snoc]
      simp
    rw [e]
    exact ih k (i + 1) (by omega) (by omega) (by omega)

theorem bytes_f (n size : Int) (h0 : -9223372036854775808 ≤ n) (h1 : n < 9223372036854775808) (k : Nat) (hk : 9 < k) : word_Bytes.f k n size = some (bytesR n size) := by
  obtain ⟨k, rfl⟩ : ∃ m, k = m + 1 := ⟨k - 1, by omega⟩
  have hj : ∀ s : Nat, s ≤ 8 → word_Bytes.j0 (k + 1) n s = some (strOfNums (leL n s), 0) := by
    intro s hs
    simp only [word_Bytes.j0]
    rw [if_pos (by omega), if_pos (by omega)]
    simp only [Option.bind_some, List.length_replicate, Int.toNat_natCast]
    have h := bytes_l0 n s hs s k 0 (by omega) (by omega) (by omega)
    simpa [leL] using h
  unfold word_Bytes.f bytesR
  by_cases e1 : size = 1
  · subst e1
    have := hj 1 (by omega)
    by_cases hf : -128 ≤ n ∧ n < 128
    · rw [if_pos rfl, if_pos (by rw [wrap_i8]; unfold wrap64; omega), if_pos (by omega), if_pos (by unfold Fits; omega)]
      exact this
    · rw [if_pos rfl, if_neg (by rw [wrap_i8]; unfold wrap64; omega), if_pos (by omega), if_neg (by unfold Fits; omega)]
  · rw [if_neg e1]
    by_cases e4 : size = 4
    · subst e4
      have := hj 4 (by omega)
      by_cases hf : -2147483648 ≤ n ∧ n < 2147483648
      · rw [if_pos rfl, if_pos (by unfold wrap64 wrap32; omega), if_pos (by omega), if_pos (by unfold Fits; omega)]
        exact this
      · rw [if_pos rfl, if_neg (by unfold wrap64 wrap32; omega), if_pos (by omega), if_neg (by unfold Fits; omega)]
    · rw [if_neg e4]
      by_cases e8 : size = 8
      · subst e8
        rw [if_pos rfl, if_pos (by omega), if_pos (by unfold Fits; omega)]
        exact hj 8 (by omega)
      · rw [if_neg e8, if_neg (by omega)]

/-- What Number answers. -/
def numR (s : ByteArray) : Int × Int :=
  if s.size = 1 then ((unleL (bytesOf s) + 128) % 256 - 128, 0)
  else if s.size = 4 then ((unleL (bytesOf s) + 2147483648) % 4294967296 - 2147483648, 0)
  else if s.size = 8 then (wrap64 (unleL (bytesOf s)), 0)
  else (0, 1)

theorem take_snoc_bytes (s : ByteArray) (i : Nat) (h : i < s.size) : (bytesOf s).take (i + 1) = (bytesOf s).take i ++ [bt s i] := by
  have hl : i < (bytesOf s).length := by rw [bytesOf_length]; exact h
  rw [List.take_succ_eq_append_getElem hl, ← rd_bytesOf]
  unfold rd
  rw [Int.toNat_natCast, List.getD_eq_getElem?_getD, List.getElem?_eq_getElem hl]
  rfl

theorem shl_bytes (b : Int) (i : Nat) (h0 : 0 ≤ b) (h1 : b < 256) (h : i ≤ 7) : shl .i64 (wrap64 b) (wrap64 (8 * (i : Int))) = wrap64 (b * 256 ^ i) := by
  unfold shl
  have hw : wrap64 (8 * (i : Int)) = 8 * i := wrap64_id (by omega) (by omega)
  have e : (8 * (i : Int)).toNat = 8 * i := by omega
  have hm : min (8 * i) IntKind.i64.bits = 8 * i := Nat.min_eq_left (by have : IntKind.i64.bits = 64 := rfl; omega)
  rw [hw, e, hm, Int.pow_mul, wrap_i64, wrap64_id (n := b) (by omega) (by omega)]
  rfl

theorem number_bad (s : ByteArray) (hs : s.size ≤ 281474976710656) (hb : ¬ (s.size = 1 ∨ s.size = 4 ∨ s.size = 8)) : ∀ (d k i : Nat) (x : Int), s.size - i = d → i ≤ s.size → d < k →
    word_Number.l0 k s x (s.size : Int) i = some (0, 1) := by
  intro d
  induction d with
  | zero =>
    intro k i x hd hi hk
    obtain ⟨k, rfl⟩ : ∃ m, k = m + 1 := ⟨k - 1, by omega⟩
    simp only [word_Number.l0]
    rw [if_neg (by omega), if_neg (by omega), if_neg (by omega), if_neg (by omega)]
  | succ d ih =>
    intro k i x hd hi hk
    obtain ⟨k, rfl⟩ : ∃ m, k = m + 1 := ⟨k - 1, by omega⟩
    simp only [word_Number.l0]
    have hw : wrap64 (8 * (i : Int)) = 8 * i := wrap64_id (by omega) (by omega)
    rw [if_pos (by omega), if_pos (by omega), if_pos (by omega), if_pos (by rw [hw]; omega), wrap64_id (n := (i : Int) + 1) (by omega) (by omega), show ((i : Int) + 1) = ((i + 1 : Nat) : Int) by omega]
    exact ih k (i + 1) _ (by omega) (by omega) (by omega)

theorem number_l0 (s : ByteArray) (hs : s.size ≤ 8) (hg : s.size = 1 ∨ s.size = 4 ∨ s.size = 8) : ∀ (d k i : Nat), s.size - i = d → i ≤ s.size → d < k →
    word_Number.l0 k s (wrap64 (unleL ((bytesOf s).take i))) (s.size : Int) i = some (numR s) := by
  intro d
  induction d with
  | zero =>
    intro k i hd hi hk
    obtain ⟨k, rfl⟩ : ∃ m, k = m + 1 := ⟨k - 1, by omega⟩
    obtain rfl : i = s.size := by omega
    have hr := unleL_range _ (bytesOf_Bs s)
    rw [bytesOf_length] at hr
    simp only [word_Number.l0]
    rw [if_neg (by omega), List.take_of_length_le (by rw [bytesOf_length]; exact Nat.le_refl _)]
    unfold numR
    rcases hg with h | h | h
    · rw [if_pos (by omega), if_pos h, wrap_i8]
      rw [h] at hr
      unfold wrap64
      congr 2
      omega
    · rw [if_neg (by omega), if_pos (by omega), if_neg (by omega), if_pos h]
      rw [h] at hr
      unfold wrap32 wrap64
      congr 2
      omega
    · rw [if_neg (by omega), if_neg (by omega), if_pos (by omega), if_neg (by omega), if_neg (by omega), if_pos h]
  | succ d ih =>
    intro k i hd hi hk
    obtain ⟨k, rfl⟩ : ∃ m, k = m + 1 := ⟨k - 1, by omega⟩
    simp only [word_Number.l0]
    have hw : wrap64 (8 * (i : Int)) = 8 * i := wrap64_id (by omega) (by omega)
    have hbr := bt_range s i
    have hr := unleL_range _ ((bytesOf_Bs s).take i)
    have hl : ((bytesOf s).take i).length = i := by rw [List.length_take, bytesOf_length]; omega
    rw [hl] at hr
    rw [if_pos (by omega), if_pos (by omega), if_pos (by omega), if_pos (by rw [hw]; omega), wrap64_id (n := (i : Int) + 1) (by omega) (by omega), show ((i : Int) + 1) = ((i + 1 : Nat) : Int) by omega,
      shl_bytes _ i (by omega) (by omega) (by omega), or_join _ _ i (by omega) hr.1 hr.2 (by omega) (by omega)]
    have e := unleL_snoc ((bytesOf s).take i) (bt s i)
    rw [hl, ← take_snoc_bytes s i (by omega)] at e
    rw [← e]
    exact ih k (i + 1) (by omega) (by omega) (by omega)

theorem number_f (s : ByteArray) (hs : s.size ≤ 281474976710656) (k : Nat) (hk : s.size < k) : word_Number.f k s = some (numR s) := by
  unfold word_Number.f
  by_cases hg : s.size = 1 ∨ s.size = 4 ∨ s.size = 8
  · have h := number_l0 s (by omega) hg s.size k 0 (by omega) (by omega) hk
    simpa [unleL, wrap64] using h
  · have h := number_bad s hs hg s.size k 0 0 (by omega) (by omega) hk
    unfold numR
    rw [if_neg (by omega), if_neg (by omega), if_neg (by omega)]
    exact h

/-- Number turns Bytes back. -/
theorem num_bytes (n size : Int) (h0 : -9223372036854775808 ≤ n) (h1 : n < 9223372036854775808) (h : Fits n size) : numR (bytesR n size).1 = (n, 0) := by
  unfold bytesR
  have hz : size = 1 ∨ size = 4 ∨ size = 8 := by unfold Fits at h; omega
  rw [if_pos hz, if_pos h]
  simp only [numR, strOfNums_size, leL_len]
  rw [bytesOf_str (leL_bs _ _), unleL_leL]
  rcases h with ⟨rfl, h⟩ | ⟨rfl, h⟩ | rfl
  · rw [if_pos (by omega)]
    have e : (1 : Int).toNat = 1 := rfl
    rw [e]
    congr 1
    omega
  · rw [if_neg (by omega), if_pos (by omega)]
    have e : (4 : Int).toNat = 4 := rfl
    rw [e]
    congr 1
    omega
  · rw [if_neg (by omega), if_neg (by omega), if_pos (by omega)]
    have e : (8 : Int).toNat = 8 := rfl
    rw [e]
    unfold wrap64
    congr 1
    omega

end Go.Proofs.Ytilmndkbloodbaa.Word1

namespace Go.Proofs.Ytilmndkbloodbaa.M
end Go.Proofs.Ytilmndkbloodbaa.M
/-
  What the document's Put, All, Take, Bytes and Number (cotterref01) answer, said by the same plain functions as the program's. Conditions: numbers of 64 bits; lists and texts small enough.
-/
namespace Go.Proofs.Ytilmndkbloodbaa.Word1
open Go.RowKit Go.Proofs.Ytilmndkbloodbaa.M Go.Proofs.Ytilmndkbloodbaa.Num Go.Proofs.Ytilmndkbloodbaa.Seven Go.Proofs.YtilmndkbloodbaaW.PrintWords Go.Proofs.YtilmndkbloodbaaW.PrintLast

theorem rtake_l0 (s : ByteArray) (at_ : Nat) (hs : s.size ≤ 281474976710656) (hat : at_ ≤ s.size) : ∀ (d k i : Nat) (u : Int), 10 - i = d → i ≤ 10 → 0 ≤ u → (i ≤ 9 → u < 2 ^ (7 * i)) → 3 * d + 3 < k →
    cotterref01_Take.l0 k s at_ u i = some (restR s at_ i u) := by
  intro d
  induction d with
  | zero =>
    intro k i u hd hi hu hu1 hk
    obtain ⟨k, rfl⟩ : ∃ m, k = m + 3 := ⟨k - 3, by omega⟩
    obtain rfl : i = 10 := by omega
    simp only [cotterref01_Take.l0]
    rw [if_neg (by omega)]
    by_cases hlt : at_ + 10 < s.size
    · rw [restR_bad hlt (.inl (by omega))]; simp [cotterref01_Take.j2]
    · rw [restR_end hlt]; simp [cotterref01_Take.j2]
  | succ d ih =>
    intro k i u hd hi hu hu1 hk
    obtain ⟨k, rfl⟩ : ∃ m, k = m + 3 := ⟨k - 3, by omega⟩
    simp only [cotterref01_Take.l0]
    have ew : wrap64 ((at_ : Int) + i) = ((at_ + i : Nat) : Int) := by rw [wrap64_id (by omega) (by omega)]; omega
    rw [ew, if_pos (by omega)]
    by_cases hlt : at_ + i < s.size
    · have et : decide (((at_ + i : Nat) : Int) < (s.size : Int)) = true := decide_eq_true (by omega)
      rw [et]
      simp only [cotterref01_Take.j2, if_true]
      rw [ew, if_pos (by omega), if_pos (by omega)]
      have hbr := bt_range s (at_ + i : Nat)
      have hb7 : IntKind.u64.wrap (wrap64 (7 * (i : Int))) = 7 * i := by rw [wrap64_id (by omega) (by omega), wrap_u64]; omega
      have hu9 := hu1 (by omega)
      have good : ∀ (c : Bool), (c = true ↔ (i = 9 ∧ bt s (at_ + i : Nat) > 1)) → cotterref01_Take.j3 (k + 1) s at_ u i (bt s (at_ + i : Nat)) c = some (restR s at_ i u) := by
        intro c hc
        simp only [cotterref01_Take.j3, hb7]
        by_cases hbad : c = true
        · rw [if_pos hbad, restR_bad hlt (.inr (.inl (hc.1 hbad)))]
        · rw [if_neg hbad, if_pos (by omega)]
          have h91 : i = 9 → bt s (at_ + i : Nat) ≤ 1 := by
            intro h
            by_cases hb : bt s (at_ + i : Nat) > 1
            · exact absurd (hc.2 ⟨h, hb⟩) hbad
            · omega
          have mt : Int.tmod (bt s (at_ + i : Nat)) 128 = bt s (at_ + i : Nat) % 128 := Int.tmod_eq_emod_of_nonneg (by omega)
          have mw : IntKind.u64.wrap (bt s (at_ + i : Nat) % 128) = bt s (at_ + i : Nat) % 128 := by rw [wrap_u64]; omega
          obtain ⟨f1, f2, f3, f4⟩ := take_fits (b := bt s (at_ + i : Nat)) (i := i) (u := u) (by omega) (by omega) (by omega) h91 hu hu9
          have hsh := shl_u64_small (bt s (at_ + i : Nat) % 128) (7 * i) i rfl (by omega) (by omega) f1
          rw [mt, mw, hsh, wrap_u64_id f4 f2, ew]
          by_cases hl : bt s (at_ + i : Nat) < 128
          · rw [if_pos hl]
            by_cases h0 : bt s (at_ + i : Nat) = 0
            · rw [if_pos h0]
              by_cases hi0 : (i : Int) > 0
              · rw [if_pos hi0, restR_bad hlt (.inr (.inr ⟨by omega, h0⟩))]
              · rw [if_neg hi0, restR_last hlt (by omega) hl, wrap64_id (by omega) (by omega), show bt s (at_ + i : Nat) % 128 = bt s (at_ + i : Nat) by omega]
                congr 3
            · rw [if_neg h0, restR_last hlt (by omega) hl, wrap64_id (by omega) (by omega), show bt s (at_ + i : Nat) % 128 = bt s (at_ + i : Nat) by omega]
              congr 3
          · rw [if_neg hl, restR_step hlt (by omega) hl, wrap64_id (by omega) (by omega), show ((i : Int) + 1) = ((i + 1 : Nat) : Int) by omega, show bt s (at_ + i : Nat) % 128 = bt s (at_ + i : Nat) - 128 by omega]
            rw [show bt s (at_ + i : Nat) % 128 = bt s (at_ + i : Nat) - 128 by omega] at f3 f4
            exact ih k (i + 1) _ (by omega) (by omega) f4 (fun h => f3 (by omega)) (by omega)
      by_cases h9 : i = 9
      · rw [if_pos (by omega)]; exact good _ (by simp only [decide_eq_true_eq]; omega)
      · rw [if_neg (by omega)]; exact good false (by simp only [Bool.false_eq_true, false_iff]; omega)
    · have et : decide (((at_ + i : Nat) : Int) < (s.size : Int)) = false := decide_eq_false (by omega)
      rw [et, restR_end hlt]
      simp [cotterref01_Take.j2]

theorem rtake_f (s : ByteArray) (at_ : Int) (hs : s.size ≤ 281474976710656) (k : Nat) (hk : 36 < k) : cotterref01_Take.f k s at_ = some (takeR s at_) := by
  obtain ⟨k, rfl⟩ : ∃ m, k = m + 1 := ⟨k - 1, by omega⟩
  unfold cotterref01_Take.f
  by_cases h0 : at_ < 0
  · rw [if_pos h0]
    simp [cotterref01_Take.j0, takeR, h0]
  · rw [if_neg h0]
    by_cases h1 : at_ > (s.size : Int)
    · have e : decide (at_ > (s.size : Int)) = true := decide_eq_true h1
      rw [e]
      unfold takeR
      rw [if_pos (.inr h1)]
      simp [cotterref01_Take.j0]
    · have e : decide (at_ > (s.size : Int)) = false := decide_eq_false h1
      rw [e]
      simp only [cotterref01_Take.j0, Bool.false_eq_true, if_false]
      obtain ⟨a, rfl⟩ := Int.eq_ofNat_of_zero_le (show 0 ≤ at_ by omega)
      rw [← restR_zero s a (by omega)]
      exact rtake_l0 s a hs (by omega) 10 k 0 0 (by omega) (by omega) (by omega) (by simp) (by omega)

theorem sized_f (n : Int) : cotterref01_sized.f n = some (decide (n = 1 ∨ n = 4 ∨ n = 8)) := by
  unfold cotterref01_sized.f
  by_cases e1 : n = 1
  · simp [e1]
  · by_cases e4 : n = 4
    · simp [e4]
    · by_cases e8 : n = 8
      · simp [e8]
      · simp [e1, e4, e8]

theorem rnumber_l0 (s : ByteArray) (hg : s.size = 1 ∨ s.size = 4 ∨ s.size = 8) : ∀ (d k : Nat), d ≤ s.size → d < k →
    cotterref01_Number.l0 k s (unleL ((bytesOf s).drop d)) ((d : Int) - 1) = some (numR s) := by
  intro d
  induction d with
  | zero =>
    intro k hi hk
    obtain ⟨k, rfl⟩ : ∃ m, k = m + 1 := ⟨k - 1, by omega⟩
    simp only [cotterref01_Number.l0]
    have hr := unleL_range _ (bytesOf_Bs s)
    rw [bytesOf_length] at hr
    have hlast : ∀ n : Nat, s.size = n + 1 → unleL (bytesOf s) = unleL ((bytesOf s).take n) + bt s n * 256 ^ n ∧ 0 ≤ unleL ((bytesOf s).take n) ∧ unleL ((bytesOf s).take n) < 256 ^ n := by
      intro n hn
      have hl : ((bytesOf s).take n).length = n := by rw [List.length_take, bytesOf_length]; omega
      have e := unleL_snoc ((bytesOf s).take n) (bt s n)
      rw [hl, ← take_snoc_bytes s n (by omega), List.take_of_length_le (by rw [bytesOf_length]; omega)] at e
      have hr2 := unleL_range _ ((bytesOf_Bs s).take n)
      rw [hl] at hr2
      exact ⟨e, hr2.1, hr2.2⟩
    rw [if_neg (by omega), List.drop_zero]
    unfold numR
    rcases hg with h | h | h
    · obtain ⟨g1, g2, g3⟩ := hlast 0 h
      have hbr := bt_range s (0 : Nat)
      rw [h] at hr
      have ew : wrap64 ((s.size : Int) - 1) = ((0 : Nat) : Int) := by rw [h]; decide +kernel
      have es : shl .u64 1 (IntKind.u64.wrap (wrap64 (8 * (s.size : Int)))) = 256 := by rw [h]; decide +kernel
      rw [if_pos (by omega), ew, if_pos (by omega), if_pos (by omega), if_pos h, es]
      by_cases hb : bt s (0 : Nat) ≥ 128
      · rw [if_pos hb, if_pos (by rw [wrap_u64]; omega), wrap_u64]
        unfold wrap64
        congr 2
        omega
      · rw [if_neg hb]
        unfold wrap64
        congr 2
        omega
    · obtain ⟨g1, g2, g3⟩ := hlast 3 h
      have hbr := bt_range s (3 : Nat)
      rw [h] at hr
      have ew : wrap64 ((s.size : Int) - 1) = ((3 : Nat) : Int) := by rw [h]; decide +kernel
      have es : shl .u64 1 (IntKind.u64.wrap (wrap64 (8 * (s.size : Int)))) = 4294967296 := by rw [h]; decide +kernel
      rw [if_pos (by omega), ew, if_pos (by omega), if_pos (by omega), if_neg (show ¬ s.size = 1 by omega), if_pos h, es]
      by_cases hb : bt s (3 : Nat) ≥ 128
      · rw [if_pos hb, if_pos (by rw [wrap_u64]; omega), wrap_u64]
        unfold wrap64
        congr 2
        omega
      · rw [if_neg hb]
        unfold wrap64
        congr 2
        omega
    · rw [if_neg (by omega), if_neg (by omega), if_neg (by omega), if_pos h]
  | succ d ih =>
    intro k hi hk
    obtain ⟨k, rfl⟩ : ∃ m, k = m + 1 := ⟨k - 1, by omega⟩
    simp only [cotterref01_Number.l0]
    have e1 : ((d + 1 : Nat) : Int) - 1 = (d : Int) := by omega
    have hbr := bt_range s d
    have hr := unleL_range _ ((bytesOf_Bs s).drop (d + 1))
    have hl : ((bytesOf s).drop (d + 1)).length = s.size - (d + 1) := by rw [List.length_drop, bytesOf_length]
    have h7 : (256 : Int) ^ (s.size - (d + 1)) ≤ 256 ^ 7 := by
      have h1 : 256 ^ (s.size - (d + 1)) ≤ 256 ^ 7 := Nat.pow_le_pow_right (by decide) (by omega)
      have h2 : ((256 ^ (s.size - (d + 1)) : Nat) : Int) = (256 : Int) ^ (s.size - (d + 1)) := by simp
      have h3 : ((256 ^ 7 : Nat) : Int) = (256 : Int) ^ 7 := by simp
      omega
    have e7 : (256 : Int) ^ 7 = 72057594037927936 := by decide
    rw [hl] at hr
    rw [e7] at h7
    rw [e1, if_pos (by omega), if_pos (by omega), if_pos (by omega), wrap64_id (by omega) (by omega)]
    have e2 : IntKind.u64.wrap (IntKind.u64.wrap (unleL ((bytesOf s).drop (d + 1)) * 256) + IntKind.u64.wrap (bt s d)) = unleL ((bytesOf s).drop d) := by
      rw [bt_drop s d (by omega), unleL, wrap_u64, wrap_u64, wrap_u64]
      omega
    rw [e2]
    exact ih k (by omega) (by omega)

theorem rnumber_f (s : ByteArray) (hs : s.size ≤ 281474976710656) (k : Nat) (hk : 9 < k) : cotterref01_Number.f k s = some (numR s) := by
  unfold cotterref01_Number.f
  rw [sized_f]
  simp only [Option.bind_some, decide_eq_true_eq]
  by_cases hg : s.size = 1 ∨ s.size = 4 ∨ s.size = 8
  · rw [if_pos (by omega), wrap64_id (by omega) (by omega)]
    have h := rnumber_l0 s hg s.size k (by omega) (by omega)
    rw [List.drop_eq_nil_of_le (by rw [bytesOf_length]; exact Nat.le_refl _)] at h
    exact h
  · rw [if_neg (by omega)]
    unfold numR
    rw [if_neg (by omega), if_neg (by omega), if_neg (by omega)]

end Go.Proofs.Ytilmndkbloodbaa.Word1

-- Written by a program of this session (wip/ownprint.py) over the translation. Lean checks it.
namespace Go.Proofs.Ytilmndkbloodbaa.M
open Go.RowKit Go.Proofs.YtilmndkbloodbaaW.PrintWords Go.Proofs.YtilmndkbloodbaaW.PrintLast
set_option linter.unusedVariables false
set_option linter.unusedSimpArgs false

/-! ### objf_isName: function 48 -/
def objf_isName.f (a0 : ByteArray) : Option (Bool) := if (a0.size : Int) > 0 then (some (decide ((a0.size : Int) ≤ 28))) else (some false)
set_option maxHeartbeats 8000000 in
set_option maxRecDepth 100000 in
theorem objf_isName.calls (a0 : ByteArray) (r : Bool) (w : World) (h : objf_isName.f a0 = some r) :
    Calls Try.prog 48 #[.string a0] w fun e w' => e = .returned (.bool r) ∧ Drawn0 w w' := by
  have H : (if (a0.size : Int) > 0 then (some (decide ((a0.size : Int) ≤ 28))) else (some false)) = some r := h
  clear h
  by_cases c2 : (a0.size : Int) > 0
  · rw [if_pos c2] at H
    have c2b0 : decide (0 < (a0.size : Int)) = true := decide_eq_true c2
    have c2b1 : decide (0 < a0.size) = true := decide_eq_true (by omega)
    clear c2
    obtain rfl := Option.some.inj H
    go_enter Try.func48, Try.ntmps48
    go_wp2
    go_ret
    exact ⟨by first | rfl | (simp; done) | (simp [*]; done), by repeat (first | exact Drawn0.refl _ | apply Drawn0.step)⟩
  · rw [if_neg c2] at H
    have c2b0 : decide (0 < (a0.size : Int)) = false := decide_eq_false c2
    have c2b1 : decide (0 < a0.size) = false := decide_eq_false (by omega)
    clear c2
    obtain rfl := Option.some.inj H
    go_enter Try.func48, Try.ntmps48
    go_wp2
    go_ret
    exact ⟨by first | rfl | (simp; done) | (simp [*]; done), by repeat (first | exact Drawn0.refl _ | apply Drawn0.step)⟩

/-! ### objf_symbols: function 27 -/
def symGood (code data : Int) (s : S41) : Bool :=
  decide (s.f1 = 1 ∨ s.f1 = 2 ∨ s.f1 = 3) && decide (0 < s.f0.size ∧ s.f0.size ≤ 28) && decide (0 ≤ s.f2) && decide (s.f2 < (if s.f1 = 2 then data else code))
/-- How many texts there are, each counted once. -/
def distinct : List (List UInt8) → Nat
  | [] => 0
  | s :: r => distinct r + if s ∈ r then 0 else 1
theorem distinct_cons (s : List UInt8) (r : List (List UInt8)) : distinct (s :: r) = distinct r + if s ∈ r then 0 else 1 := rfl
def symNames (l : List S41) : List (List UInt8) := (l.map (·.f0.data.toList)).reverse
def objf_symbols.f (l0 : List S41) (a1 a2 : Int) : Option Bool :=
  some (l0.all (symGood a1 a2) && decide (distinct (symNames l0) = l0.length) && decide (l0.length ≤ 1000))
abbrev SymD := DataW Unit
def Named (D : SymD) (xs : List (List UInt8)) : Prop := (∀ s : List UInt8, Maps.has D (.string s) = decide (s ∈ xs)) ∧ Maps.size D = distinct xs
theorem named_nil : Named (.map []) [] := ⟨fun s => by simp [Maps.has], rfl⟩
theorem named_put {D : SymD} {xs : List (List UInt8)} (h : Named D xs) (t : Maps.Tidy D) (s : List UInt8) (d : SymD) : Named (D.put (.string s) d) (s :: xs) := by
  refine ⟨fun u => ?_, ?_⟩
  · by_cases e : u = s
    · subst e
      rw [Maps.has_put_same t.isMap (by simp [WideAt.IsKeyLit])]
      simp
    · rw [Maps.has_put_other (fun h => e (by injection h)), h.1 u]
      simp [e]
  · rw [Maps.size_put t, h.1 s, h.2]
    rw [distinct_cons]
    by_cases e : s ∈ xs <;> simp [e]
theorem symNames_snoc (l : List S41) (k : Nat) (h : k < l.length) : symNames (l.take (k + 1)) = (l.getD k z41).f0.data.toList :: symNames (l.take k) := by
  have e := congrArg (fun x : List S41 => (x.map (fun y => y.f0.data.toList)).reverse) (List.take_succ_eq_append_getElem h)
  refine Eq.trans e ?_
  simp only [symNames, List.map_append, List.reverse_append, List.map_cons, List.map_nil, List.reverse_cons, List.reverse_nil, List.nil_append, List.singleton_append, List.getD_eq_getElem?_getD, List.getElem?_eq_getElem h, Option.getD_some, List.cons_append]
theorem all_snoc (p : S41 → Bool) (l : List S41) (k : Nat) (h : k < l.length) : (l.take (k + 1)).all p = ((l.take k).all p && p (l.getD k z41)) := by
  rw [List.take_succ_eq_append_getElem h, List.all_append]
  simp [List.getD_eq_getElem?_getD, List.getElem?_eq_getElem h]
theorem all_false_of (p : S41 → Bool) (l : List S41) (k : Nat) (h : k < l.length) (hp : p (l.getD k z41) = false) : l.all p = false := by
  rw [List.all_eq_false]
  exact ⟨l[k], List.getElem_mem h, by rw [List.getD_eq_getElem?_getD, List.getElem?_eq_getElem h] at hp; simpa using hp⟩
theorem sym_law9 : Maps.Keyed Try.prog 9 := Maps.string_keyed Try.underlying9
theorem sym_zero3 (w : World) : (zeroValue 3).run Try.prog w = .ok (.int .i64 0) w := by kernel_rfl
theorem sym_grown {w W W1 : World} {b : Nat} (hg : W.grownBy W1 (some b)) (hb : w.heap.size ≤ b) (h : Below w.heap.size w W) : Below w.heap.size w W1 := h.grown hg h.size (fun j hj => by cases hj; exact hb)
theorem sym_bad {l0 : List S41} {a1 a2 : Int} {r : Bool} (h : objf_symbols.f l0 a1 a2 = some r) (k : Nat) (hk : k < l0.length) (hp : symGood a1 a2 (l0.getD k z41) = false) : r = false := by
  unfold objf_symbols.f at h
  rw [all_false_of _ _ k hk hp] at h
  simpa using h.symm
theorem sym_end {l0 : List S41} {a1 a2 : Int} {r : Bool} (h : objf_symbols.f l0 a1 a2 = some r) (hg : l0.all (symGood a1 a2) = true) : r = (decide (distinct (symNames l0) = l0.length) && decide (l0.length ≤ 1000)) := by
  unfold objf_symbols.f at h
  rw [hg] at h
  simpa using h.symm
set_option maxHeartbeats 8000000 in
set_option maxRecDepth 100000 in
theorem objf_symbols.calls (A0 : Option Addr) (c0 : Nat) (l0 : List (S41)) (a1 : Int) (a2 : Int) (r : Bool) (w : World) (hr0 : Kd.C k41 w A0 l0.length l0) (hc0 : l0.length ≤ c0) (h : objf_symbols.f l0 a1 a2 = some r) :
    Calls Try.prog 27 #[.slice A0 l0.length c0, .int .i64 a1, .int .i64 a2] w fun e w' => e = .returned (.bool r) ∧ Below w.heap.size w w' := by
  have hlm : l0.length ≤ 9223372036854775807 := by have := hr0.2.1; simpa [maxLen] using this
  have HR0 := Aside0.mk hr0
  have H := Aside0.mk h
  have hmm := @run_makeMap Try.prog
  clear hr0 h
  go_enter Try.func27, Try.ntmps27
  go_wp2
  go_loopw [14] (fun v wr => ∃ k : Nat, k ≤ l0.length ∧ v = .int .i64 k ∧ Aside0 ((l0.take k).all (symGood a1 a2) = true) ∧ (∃ D : SymD, Aside0 (wr.ownsMap Try.prog 9 (plainElem Try.prog 3) w.heap.size k D) ∧ Aside0 (Named D (symNames (l0.take k)))) ∧ Aside0 (Below w.heap.size w wr)) (fun v _ => l0.length - (intOf v).toNat)
  case atStart => exact ⟨0, Nat.zero_le _, rfl, ⟨rfl⟩, ⟨_, ⟨World.ownsMap_made _ _ _ _⟩, ⟨named_nil⟩⟩, ⟨(Below.refl _ _).alloc (Nat.le_refl _) _⟩⟩
  case round =>
    obtain ⟨k, hk, rfl, HG, ⟨D, HO, HN⟩, HB⟩ := hrel
    by_cases hlt : k < l0.length
    case neg =>
      obtain rfl : k = l0.length := by omega
      have hend := sym_end H.out (by simpa using HG.out)
      have hsz : Maps.size D = distinct (symNames l0) := by have := HN.out.2; simpa using this
      by_cases e1 : distinct (symNames l0) = l0.length
      · have e2 : ((distinct (symNames l0) : Int) == (l0.length : Int)) = true := by simp [e1]
        have e3 : (distinct (symNames l0) == l0.length) = true := by simp [e1]
        have e4 : r = decide (l0.length ≤ 1000) := by rw [hend]; simp [e1]
        rw [← hsz] at e2 e3
        subst e4
        clear hend e1 hsz H hmm
        go_wp2_with (first | (at_len; refine wpList_len_own _ rfl _ 79 rfl 9 3 Try.underlying79 _ w.heap.size _ _ rfl HO.out ?_))
        go_ret
        exact ⟨by first | rfl | (simp; done) | (simp; omega), by repeat (first | exact HB.out | apply Below.drew)⟩
      · have e2 : ((distinct (symNames l0) : Int) == (l0.length : Int)) = false := by simp; omega
        have e3 : (distinct (symNames l0) == l0.length) = false := by simp [e1]
        have e4 : r = false := by rw [hend]; simp [e1]
        rw [← hsz] at e2 e3
        subst e4
        clear hend e1 hsz H hmm
        go_wp2_with (first | (at_len; refine wpList_len_own _ rfl _ 79 rfl 9 3 Try.underlying79 _ w.heap.size _ _ rfl HO.out ?_))
        go_ret
        exact ⟨by first | rfl | (simp; done), by repeat (first | exact HB.out | apply Below.drew)⟩
    case pos =>
      obtain ⟨ad, he, hx0, hx1, hx2⟩ := at_T41 HR0.out (k : Int) (by omega) (by omega)
      cases he
      have hbad := fun hp => sym_bad H.out k hlt hp
      have hgood := fun (hp : symGood a1 a2 (l0.getD k z41) = true) => (show (l0.take (k + 1)).all (symGood a1 a2) = true by rw [all_snoc _ _ k hlt, HG.out, hp]; rfl)
      have hnm := symNames_snoc l0 k hlt
      have hrd : rd_T41 l0 (k : Int) = l0.getD k z41 := by simp [rd_T41]
      rw [hrd] at hx0 hx1 hx2
      clear hrd
      generalize l0.getD k z41 = s at hx0 hx1 hx2 hbad hgood hnm
      obtain ⟨s0, s1, s2⟩ := s
      replace hx0 := (HB.out.cell (World.block_lt_of_cell? w _ hx0)).trans hx0
      replace hx1 := (HB.out.cell (World.block_lt_of_cell? w _ hx1)).trans hx1
      replace hx2 := (HB.out.cell (World.block_lt_of_cell? w _ hx2)).trans hx2
      have hk1 : wrap64 ((k : Int) + 1) = ((k + 1 : Nat) : Int) := by unfold wrap64; omega
      simp only [Int.toNat_natCast] at hx0 hx1 hx2
      have HBAD := Aside0.mk hbad
      have HGOOD := Aside0.mk hgood
      have HNM := Aside0.mk hnm
      clear hbad hgood hnm H
      try dsimp only at hx0 hx1 hx2
      by_cases e2 : s1 = 2
      case pos =>
        subst e2
        by_cases hn : 0 < s0.size ∧ s0.size ≤ 28
        case neg =>
          have in1 : objf_isName.f s0 = some false := by unfold objf_isName.f; by_cases q : (s0.size : Int) > 0 <;> simp [q] <;> omega
          obtain rfl := HBAD.out (by simp [symGood, hn])
          go_wp2_with (first | (go_at_call 48; (with_reducible refine (objf_isName.calls s0 false _ in1).mono ?_); rintro e w1 ⟨rfl, ⟨n1, rfl⟩⟩))
          all_goals go_ret
          all_goals exact ⟨rfl, by (repeat (first | exact HB.out | apply Below.drew | apply pw_below_drewN | (refine Below.setCell ?_ (below_size HB.out) _) | (refine Below.alloc ?_ (below_size HB.out) _)))⟩
        case pos =>
          have in1 : objf_isName.f s0 = some true := by unfold objf_isName.f; rw [if_pos (by omega)]; simp; omega
          by_cases h0 : s2 < 0
          · have d0 : decide (s2 < 0) = true := decide_eq_true h0
            obtain rfl := HBAD.out (by simp [symGood, show ¬ (0 ≤ s2) by omega])
            go_wp2_with (first | (go_at_call 48; (with_reducible refine (objf_isName.calls s0 true _ in1).mono ?_); rintro e w1 ⟨rfl, ⟨n1, rfl⟩⟩))
            all_goals go_ret
            all_goals exact ⟨rfl, by (repeat (first | exact HB.out | apply Below.drew | apply pw_below_drewN | (refine Below.setCell ?_ (below_size HB.out) _) | (refine Below.alloc ?_ (below_size HB.out) _)))⟩
          have d0 : decide (s2 < 0) = false := decide_eq_false h0
          by_cases h1 : a2 ≤ s2
          · have d1 : decide (a2 ≤ s2) = true := decide_eq_true h1
            obtain rfl := HBAD.out (by simp [symGood, show ¬ (s2 < a2) by omega])
            go_wp2_with (first | (go_at_call 48; (with_reducible refine (objf_isName.calls s0 true _ in1).mono ?_); rintro e w1 ⟨rfl, ⟨n1, rfl⟩⟩))
            all_goals go_ret
            all_goals exact ⟨rfl, by (repeat (first | exact HB.out | apply Below.drew | apply pw_below_drewN | (refine Below.setCell ?_ (below_size HB.out) _) | (refine Below.alloc ?_ (below_size HB.out) _)))⟩
          have d1 : decide (a2 ≤ s2) = false := decide_eq_false h1
          have R1 := Aside0.mk (HGOOD.out (by simp [symGood, hn, show 0 ≤ s2 by omega, show s2 < a2 by omega]))
          have hkey : keyOf Try.prog 9 (.string s0) = some (.string s0.data.toList) := WideMaps.keyOf_string_mk Try.underlying9 (by unfold maxLen; omega)
          clear h0 h1 hn HBAD HGOOD
          go_wp2_with (first | (go_at_call 48; (with_reducible refine (objf_isName.calls s0 true _ in1).mono ?_); rintro e w1 ⟨rfl, ⟨n1, rfl⟩⟩) | (at_lookup; refine wpList_lookup_own_int _ rfl _ _ 79 rfl 9 3 .i64 sym_law9 Try.underlying79 Try.underlying3 (sym_zero3 _) w.heap.size k _ rfl (by repeat (first | exact HO.out | apply World.ownsMap.drew | apply World.ownsMap.alloc | (refine World.ownsMap.setCell ?_ (by have := HO.out.lt; simp; omega) _))) _ _ rfl hkey ?_; intro c hat hwc) | (at_mapUpdate; refine wpList_mapUpdate_own _ rfl _ _ _ 79 rfl 9 3 sym_law9 Try.underlying79 _ w.heap.size k _ rfl (by repeat (first | exact HO.out | apply World.ownsMap.drew | apply World.ownsMap.alloc | (refine World.ownsMap.setCell ?_ (by have := HO.out.lt; simp; omega) _))) (by unfold maxLen; omega) _ _ _ rfl rfl hkey _ [] (plainElem_int Try.underlying3 (wrap64_wf _)) ?_; intro w2 hown2 hgrow2; have HO2 := Aside0.mk hown2; have HB2 := Aside0.mk (sym_grown (w := w) hgrow2 (Nat.le_refl _) (by repeat (first | exact HB.out | apply Below.drew | apply pw_below_drewN | (refine Below.setCell ?_ (below_size HB.out) _) | (refine Below.alloc ?_ (below_size HB.out) _)))); clear hown2 hgrow2))
          go_roundw
          case rel => exact ⟨k + 1, by omega, by first | rfl | go_num, R1, ⟨_, HO2, ⟨by rw [HNM.out]; exact named_put HN.out (HO.out.tidy sym_law9) _ _⟩⟩, HB2⟩
          case measure => simp [intOf]; omega
      case neg =>
        have t2 : (s1 == 2) = false := beq_eq_false_iff_ne.mpr e2
        by_cases e1 : s1 = 1
        case pos =>
          subst e1
          clear t2 e2
          by_cases hn : 0 < s0.size ∧ s0.size ≤ 28
          case neg =>
            have in1 : objf_isName.f s0 = some false := by unfold objf_isName.f; by_cases q : (s0.size : Int) > 0 <;> simp [q] <;> omega
            obtain rfl := HBAD.out (by simp [symGood, hn])
            go_wp2_with (first | (go_at_call 48; (with_reducible refine (objf_isName.calls s0 false _ in1).mono ?_); rintro e w1 ⟨rfl, ⟨n1, rfl⟩⟩))
            all_goals go_ret
            all_goals exact ⟨rfl, by (repeat (first | exact HB.out | apply Below.drew | apply pw_below_drewN | (refine Below.setCell ?_ (below_size HB.out) _) | (refine Below.alloc ?_ (below_size HB.out) _)))⟩
          case pos =>
            have in1 : objf_isName.f s0 = some true := by unfold objf_isName.f; rw [if_pos (by omega)]; simp; omega
            by_cases h0 : s2 < 0
            · have d0 : decide (s2 < 0) = true := decide_eq_true h0
              obtain rfl := HBAD.out (by simp [symGood, show ¬ (0 ≤ s2) by omega])
              go_wp2_with (first | (go_at_call 48; (with_reducible refine (objf_isName.calls s0 true _ in1).mono ?_); rintro e w1 ⟨rfl, ⟨n1, rfl⟩⟩))
              all_goals go_ret
              all_goals exact ⟨rfl, by (repeat (first | exact HB.out | apply Below.drew | apply pw_below_drewN | (refine Below.setCell ?_ (below_size HB.out) _) | (refine Below.alloc ?_ (below_size HB.out) _)))⟩
            have d0 : decide (s2 < 0) = false := decide_eq_false h0
            by_cases h1 : a1 ≤ s2
            · have d1 : decide (a1 ≤ s2) = true := decide_eq_true h1
              obtain rfl := HBAD.out (by simp [symGood, show ¬ (s2 < a1) by omega])
              go_wp2_with (first | (go_at_call 48; (with_reducible refine (objf_isName.calls s0 true _ in1).mono ?_); rintro e w1 ⟨rfl, ⟨n1, rfl⟩⟩))
              all_goals go_ret
              all_goals exact ⟨rfl, by (repeat (first | exact HB.out | apply Below.drew | apply pw_below_drewN | (refine Below.setCell ?_ (below_size HB.out) _) | (refine Below.alloc ?_ (below_size HB.out) _)))⟩
            have d1 : decide (a1 ≤ s2) = false := decide_eq_false h1
            have R1 := Aside0.mk (HGOOD.out (by simp [symGood, hn, show 0 ≤ s2 by omega, show s2 < a1 by omega]))
            have hkey : keyOf Try.prog 9 (.string s0) = some (.string s0.data.toList) := WideMaps.keyOf_string_mk Try.underlying9 (by unfold maxLen; omega)
            clear h0 h1 hn HBAD HGOOD
            go_wp2_with (first | (go_at_call 48; (with_reducible refine (objf_isName.calls s0 true _ in1).mono ?_); rintro e w1 ⟨rfl, ⟨n1, rfl⟩⟩) | (at_lookup; refine wpList_lookup_own_int _ rfl _ _ 79 rfl 9 3 .i64 sym_law9 Try.underlying79 Try.underlying3 (sym_zero3 _) w.heap.size k _ rfl (by repeat (first | exact HO.out | apply World.ownsMap.drew | apply World.ownsMap.alloc | (refine World.ownsMap.setCell ?_ (by have := HO.out.lt; simp; omega) _))) _ _ rfl hkey ?_; intro c hat hwc) | (at_mapUpdate; refine wpList_mapUpdate_own _ rfl _ _ _ 79 rfl 9 3 sym_law9 Try.underlying79 _ w.heap.size k _ rfl (by repeat (first | exact HO.out | apply World.ownsMap.drew | apply World.ownsMap.alloc | (refine World.ownsMap.setCell ?_ (by have := HO.out.lt; simp; omega) _))) (by unfold maxLen; omega) _ _ _ rfl rfl hkey _ [] (plainElem_int Try.underlying3 (wrap64_wf _)) ?_; intro w2 hown2 hgrow2; have HO2 := Aside0.mk hown2; have HB2 := Aside0.mk (sym_grown (w := w) hgrow2 (Nat.le_refl _) (by repeat (first | exact HB.out | apply Below.drew | apply pw_below_drewN | (refine Below.setCell ?_ (below_size HB.out) _) | (refine Below.alloc ?_ (below_size HB.out) _)))); clear hown2 hgrow2))
            go_roundw
            case rel => exact ⟨k + 1, by omega, by first | rfl | go_num, R1, ⟨_, HO2, ⟨by rw [HNM.out]; exact named_put HN.out (HO.out.tidy sym_law9) _ _⟩⟩, HB2⟩
            case measure => simp [intOf]; omega
        case neg =>
          have t1 : (s1 == 1) = false := beq_eq_false_iff_ne.mpr e1
          by_cases e3 : s1 = 3
          case pos =>
            subst e3
            clear t2 e2 t1 e1
            by_cases hn : 0 < s0.size ∧ s0.size ≤ 28
            case neg =>
              have in1 : objf_isName.f s0 = some false := by unfold objf_isName.f; by_cases q : (s0.size : Int) > 0 <;> simp [q] <;> omega
              obtain rfl := HBAD.out (by simp [symGood, hn])
              go_wp2_with (first | (go_at_call 48; (with_reducible refine (objf_isName.calls s0 false _ in1).mono ?_); rintro e w1 ⟨rfl, ⟨n1, rfl⟩⟩))
              all_goals go_ret
              all_goals exact ⟨rfl, by (repeat (first | exact HB.out | apply Below.drew | apply pw_below_drewN | (refine Below.setCell ?_ (below_size HB.out) _) | (refine Below.alloc ?_ (below_size HB.out) _)))⟩
            case pos =>
              have in1 : objf_isName.f s0 = some true := by unfold objf_isName.f; rw [if_pos (by omega)]; simp; omega
              by_cases h0 : s2 < 0
              · have d0 : decide (s2 < 0) = true := decide_eq_true h0
                obtain rfl := HBAD.out (by simp [symGood, show ¬ (0 ≤ s2) by omega])
                go_wp2_with (first | (go_at_call 48; (with_reducible refine (objf_isName.calls s0 true _ in1).mono ?_); rintro e w1 ⟨rfl, ⟨n1, rfl⟩⟩))
                all_goals go_ret
                all_goals exact ⟨rfl, by (repeat (first | exact HB.out | apply Below.drew | apply pw_below_drewN | (refine Below.setCell ?_ (below_size HB.out) _) | (refine Below.alloc ?_ (below_size HB.out) _)))⟩
              have d0 : decide (s2 < 0) = false := decide_eq_false h0
              by_cases h1 : a1 ≤ s2
              · have d1 : decide (a1 ≤ s2) = true := decide_eq_true h1
                obtain rfl := HBAD.out (by simp [symGood, show ¬ (s2 < a1) by omega])
                go_wp2_with (first | (go_at_call 48; (with_reducible refine (objf_isName.calls s0 true _ in1).mono ?_); rintro e w1 ⟨rfl, ⟨n1, rfl⟩⟩))
                all_goals go_ret
                all_goals exact ⟨rfl, by (repeat (first | exact HB.out | apply Below.drew | apply pw_below_drewN | (refine Below.setCell ?_ (below_size HB.out) _) | (refine Below.alloc ?_ (below_size HB.out) _)))⟩
              have d1 : decide (a1 ≤ s2) = false := decide_eq_false h1
              have R1 := Aside0.mk (HGOOD.out (by simp [symGood, hn, show 0 ≤ s2 by omega, show s2 < a1 by omega]))
              have hkey : keyOf Try.prog 9 (.string s0) = some (.string s0.data.toList) := WideMaps.keyOf_string_mk Try.underlying9 (by unfold maxLen; omega)
              clear h0 h1 hn HBAD HGOOD
              go_wp2_with (first | (go_at_call 48; (with_reducible refine (objf_isName.calls s0 true _ in1).mono ?_); rintro e w1 ⟨rfl, ⟨n1, rfl⟩⟩) | (at_lookup; refine wpList_lookup_own_int _ rfl _ _ 79 rfl 9 3 .i64 sym_law9 Try.underlying79 Try.underlying3 (sym_zero3 _) w.heap.size k _ rfl (by repeat (first | exact HO.out | apply World.ownsMap.drew | apply World.ownsMap.alloc | (refine World.ownsMap.setCell ?_ (by have := HO.out.lt; simp; omega) _))) _ _ rfl hkey ?_; intro c hat hwc) | (at_mapUpdate; refine wpList_mapUpdate_own _ rfl _ _ _ 79 rfl 9 3 sym_law9 Try.underlying79 _ w.heap.size k _ rfl (by repeat (first | exact HO.out | apply World.ownsMap.drew | apply World.ownsMap.alloc | (refine World.ownsMap.setCell ?_ (by have := HO.out.lt; simp; omega) _))) (by unfold maxLen; omega) _ _ _ rfl rfl hkey _ [] (plainElem_int Try.underlying3 (wrap64_wf _)) ?_; intro w2 hown2 hgrow2; have HO2 := Aside0.mk hown2; have HB2 := Aside0.mk (sym_grown (w := w) hgrow2 (Nat.le_refl _) (by repeat (first | exact HB.out | apply Below.drew | apply pw_below_drewN | (refine Below.setCell ?_ (below_size HB.out) _) | (refine Below.alloc ?_ (below_size HB.out) _)))); clear hown2 hgrow2))
              go_roundw
              case rel => exact ⟨k + 1, by omega, by first | rfl | go_num, R1, ⟨_, HO2, ⟨by rw [HNM.out]; exact named_put HN.out (HO.out.tidy sym_law9) _ _⟩⟩, HB2⟩
              case measure => simp [intOf]; omega
          case neg =>
            have t3 : (s1 == 3) = false := beq_eq_false_iff_ne.mpr e3
            obtain rfl := HBAD.out (by simp [symGood, e1, e2, e3])
            go_wp2_with (fail)
            all_goals go_ret
            all_goals exact ⟨rfl, by (repeat (first | exact HB.out | apply Below.drew | apply pw_below_drewN | (refine Below.setCell ?_ (below_size HB.out) _) | (refine Below.alloc ?_ (below_size HB.out) _)))⟩

end Go.Proofs.Ytilmndkbloodbaa.M

-- Written by a program of this session (wip/ownprint.py) over the translation. Lean checks it.
namespace Go.Proofs.Ytilmndkbloodbaa.M
open Go.RowKit Go.Proofs.YtilmndkbloodbaaW.PrintWords Go.Proofs.YtilmndkbloodbaaW.PrintLast
set_option linter.unusedVariables false
set_option linter.unusedSimpArgs false

/-! ### objf_relocations: function 28 -/
mutual
def objf_relocations.l0 : Nat → List (S43) → Int → Int → List (S43) → Int → Int → Option (Bool)
  | 0, _, _, _, _, _, _ => none
  | k + 1, x0, x1, x5, x8, x9, x10 => if x10 < x9 then (if 0 ≤ x10 then (if x10 < (x8.length : Int) then ((objf_isName.f ((rd_T43 x8 x10).f2)).bind fun t239 => (if t239 = true then (if ((rd_T43 x8 x10).f0) < x5 then (objf_relocations.j1 k x0 x1 x8 x9 x10 true ((rd_T43 x8 x10).f0) ((rd_T43 x8 x10).f1) ((rd_T43 x8 x10).f2) ((rd_T43 x8 x10).f3)) else (objf_relocations.j1 k x0 x1 x8 x9 x10 (decide (((rd_T43 x8 x10).f0) > (wrap64 (x1 - 4)))) ((rd_T43 x8 x10).f0) ((rd_T43 x8 x10).f1) ((rd_T43 x8 x10).f2) ((rd_T43 x8 x10).f3))) else (objf_relocations.j1 k x0 x1 x8 x9 x10 true ((rd_T43 x8 x10).f0) ((rd_T43 x8 x10).f1) ((rd_T43 x8 x10).f2) ((rd_T43 x8 x10).f3)))) else (none)) else (none)) else (some (decide ((x0.length : Int) ≤ 8000)))
def objf_relocations.j1 : Nat → List (S43) → Int → List (S43) → Int → Int → Bool → Int → Int → ByteArray → Int → Option (Bool)
  | 0, _, _, _, _, _, _, _, _, _, _ => none
  | k + 1, x0, x1, x8, x9, x10, x30, x239000, x239001, x239002, x239003 => if x30 = true then (some false) else (if x239001 = 1 then (if x239003 = 0 then (objf_relocations.l0 k x0 x1 (wrap64 (x239000 + 4)) x8 x9 (wrap64 (x10 + 1))) else (some false)) else (if x239001 = 2 then (if x239003 < (-2147483648) then (some false) else (if x239003 > 2147483647 then (some false) else (objf_relocations.l0 k x0 x1 (wrap64 (x239000 + 4)) x8 x9 (wrap64 (x10 + 1))))) else (some false)))
end
def objf_relocations.f (k : Nat) (l0 : List (S43)) (a1 : Int) : Option (Bool) := objf_relocations.l0 k l0 a1 0 l0 (l0.length : Int) 0
set_option maxHeartbeats 8000000 in
set_option maxRecDepth 100000 in
theorem objf_relocations.calls (k : Nat) (A0 : Option Addr) (c0 : Nat) (l0 : List (S43)) (a1 : Int) (r : Bool) (w : World) (hr0 : Kd.C k43 w A0 l0.length l0) (hc0 : l0.length ≤ c0) (h : objf_relocations.f k l0 a1 = some r) :
    Calls Try.prog 28 #[.slice A0 l0.length c0, .int .i64 a1] w fun e w' => e = .returned (.bool r) ∧ Below w.heap.size w w' := by
  have hu43 := Try.underlying43
  have HR0 := Aside0.mk hr0
  have HC0 := Aside0.mk hc0
  clear hr0 hc0
  have HB := Aside0.mk (Below.refl w.heap.size w)
  have H : (objf_relocations.l0 k l0 a1 0 l0 (l0.length : Int) 0) = some r := h
  clear h
  have H' := Aside0.mk H
  clear H
  go_enter Try.func28, Try.ntmps28
  go_wp2
  go_loopg [5, 10] k (fun kq v5 v10 w' => ∃ (x5_1 : Int) (x10_1 : Int), v5 = .int .i64 x5_1 ∧ v10 = .int .i64 x10_1 ∧ Aside0 (objf_relocations.l0 kq l0 a1 x5_1 l0 (l0.length : Int) x10_1 = some r) ∧ Aside0 (kq ≤ k) ∧ Aside0 (Below w.heap.size w w'))
  case atStart => exact ⟨(0), (0), (by first | rfl | (simp; done) | (simp [*]; done)), (by first | rfl | (simp; done) | (simp [*]; done)), H', ⟨Nat.le_refl _⟩, ⟨by repeat (first | (with_reducible first | exact HB.out | apply below_alloc | apply pw_below_drewN | apply below_drew1) | exact HB.out)⟩⟩
  case round =>
    clear H'
    try clear c2
    try clear p2
    obtain ⟨x5_1, x10_1, rfl, rfl, HA, HK1, HB⟩ := hrel
    cases gk with
    | zero => exact absurd HA.out (by simp [objf_relocations.l0])
    | succ k1 =>
      have H := HA.out
      clear HA
      simp only [objf_relocations.l0] at H
      by_cases c3 : x10_1 < (l0.length : Int)
      · rw [if_pos c3] at H
        have c3b0 : decide (x10_1 < (l0.length : Int)) = true := decide_eq_true c3
        clear c3
        by_cases c4 : 0 ≤ x10_1
        · rw [if_pos c4] at H
          have c4b0 : decide (0 ≤ x10_1) = true := decide_eq_true c4
          clear c4
          by_cases c5 : x10_1 < (l0.length : Int)
          · rw [if_pos c5] at H
            have c5b0 : decide (x10_1 < (l0.length : Int)) = true := decide_eq_true c5
            clear c5
            have HC6 := Aside0.mk H
            clear H
            have p237 : 0 ≤ (x10_1 : Int) := of_decide_eq_true (by first | (with_reducible assumption) | assumption)
            have q237 : x10_1 < (l0.length : Int) := of_decide_eq_true (by first | (with_reducible assumption) | assumption)
            obtain ⟨ad237, e237, hx237_0, hx237_1, hx237_2, hx237_3⟩ := at_T43 HR0.out x10_1 p237 q237
            cases e237
            replace hx237_0 := (HB.out.cell (World.block_lt_of_cell? w _ hx237_0)).trans hx237_0
            replace hx237_1 := (HB.out.cell (World.block_lt_of_cell? w _ hx237_1)).trans hx237_1
            replace hx237_2 := (HB.out.cell (World.block_lt_of_cell? w _ hx237_2)).trans hx237_2
            replace hx237_3 := (HB.out.cell (World.block_lt_of_cell? w _ hx237_3)).trans hx237_3
            replace p237 := eq_true p237
            replace q237 := eq_true q237
            go_upto_region 5 with (first | ((with_reducible refine gate_dst (N := 7) rfl ?_); refine box_event ?hg (N := 7) ?hd (cs := #[.int .i64 0, .int .i64 0, .string (⟨#[]⟩ : ByteArray), .int .i64 0]) (t := 43) ?hr ?_; (case hd => rfl); (case hg => rfl); (case hr => first | (go_simp; done) | (go_simp; rfl)); intro gb238 hg w7 hbox hb; have n0_ := Aside0.mk (below_step (by repeat (first | (with_reducible first | exact HB.out | apply below_alloc | apply pw_below_drewN | apply below_drew1) | exact HB.out)) hb); have n1_ := Aside0.mk (hbox); have n2_ := Aside0.mk ((by rw [hg]; exact (below_size (by repeat (first | (with_reducible first | exact HB.out | apply below_alloc | apply pw_below_drewN | apply below_drew1) | exact HB.out))) : w.heap.size ≤ gb238)); have n3_ := Aside0.mk ((by rw [hg]; exact (below_size (by repeat (first | (with_reducible first | exact HB.out | apply below_alloc | apply pw_below_drewN | apply below_drew1) | exact HB.out))) : w.heap.size ≤ gb238)); clear HB; have HB := n0_; have BK238 := n1_; have GW238 := n2_; have GE238 := n3_; clear n0_ n1_ n2_ n3_; clear hb hbox hg; have hcz8_0 : w7.cell? ⟨gb238, 0, none⟩ = some (.int .i64 0) := (blk_cell BK238.out 0).trans rfl; have hcz8_1 : w7.cell? ⟨gb238, 1, none⟩ = some (.int .i64 0) := (blk_cell BK238.out 1).trans rfl; have hcz8_2 : w7.cell? ⟨gb238, 2, none⟩ = some (.string (⟨#[]⟩ : ByteArray)) := (blk_cell BK238.out 2).trans rfl; have hcz8_3 : w7.cell? ⟨gb238, 3, none⟩ = some (.int .i64 0) := (blk_cell BK238.out 3).trans rfl; have hfz8_0 := blk_frozen BK238.out 0; have hfz8_1 := blk_frozen BK238.out 1; have hfz8_2 := blk_frozen BK238.out 2; have hfz8_3 := blk_frozen BK238.out 3))
            (try simp only [Act.put, List.setIfInBounds_toArray, List.set_cons_zero, List.set_cons_succ])
            go_cut [30] (fun v30 wc => ∃ (kq : Nat) (x30_5 : Bool), v30 = .bool x30_5 ∧ Aside0 (objf_relocations.j1 kq l0 a1 l0 (l0.length : Int) x10_1 x30_5 ((rd_T43 l0 x10_1).f0) ((rd_T43 l0 x10_1).f1) ((rd_T43 l0 x10_1).f2) ((rd_T43 l0 x10_1).f3) = some r) ∧ Aside0 (kq ≤ k1) ∧ Aside0 (wc.heap[gb238]? = some (.cells #[.int .i64 ((rd_T43 l0 x10_1).f0), .int .i64 ((rd_T43 l0 x10_1).f1), .string ((rd_T43 l0 x10_1).f2), .int .i64 ((rd_T43 l0 x10_1).f3)] 43 (0, 0))) ∧ Aside0 (Below w.heap.size w wc))
            case first =>
              have H := HC6.out
              clear HC6
              replace H := Option.bind_eq_some_iff.mp H
              obtain ⟨t239, A90, H⟩ := H
              replace H : (if t239 = true then (if ((rd_T43 l0 x10_1).f0) < x5_1 then (objf_relocations.j1 k1 l0 a1 l0 (l0.length : Int) x10_1 true ((rd_T43 l0 x10_1).f0) ((rd_T43 l0 x10_1).f1) ((rd_T43 l0 x10_1).f2) ((rd_T43 l0 x10_1).f3)) else (objf_relocations.j1 k1 l0 a1 l0 (l0.length : Int) x10_1 (decide (((rd_T43 l0 x10_1).f0) > (wrap64 (a1 - 4)))) ((rd_T43 l0 x10_1).f0) ((rd_T43 l0 x10_1).f1) ((rd_T43 l0 x10_1).f2) ((rd_T43 l0 x10_1).f3))) else (objf_relocations.j1 k1 l0 a1 l0 (l0.length : Int) x10_1 true ((rd_T43 l0 x10_1).f0) ((rd_T43 l0 x10_1).f1) ((rd_T43 l0 x10_1).f2) ((rd_T43 l0 x10_1).f3))) = some r := H
              have A9 := Aside0.mk A90
              clear A90
              by_cases c10 : t239 = true
              · subst c10
                have H1 : (if ((rd_T43 l0 x10_1).f0) < x5_1 then (objf_relocations.j1 k1 l0 a1 l0 (l0.length : Int) x10_1 true ((rd_T43 l0 x10_1).f0) ((rd_T43 l0 x10_1).f1) ((rd_T43 l0 x10_1).f2) ((rd_T43 l0 x10_1).f3)) else (objf_relocations.j1 k1 l0 a1 l0 (l0.length : Int) x10_1 (decide (((rd_T43 l0 x10_1).f0) > (wrap64 (a1 - 4)))) ((rd_T43 l0 x10_1).f0) ((rd_T43 l0 x10_1).f1) ((rd_T43 l0 x10_1).f2) ((rd_T43 l0 x10_1).f3))) = some r := by rw [if_pos rfl] at H; exact H
                clear H
                have H := H1
                clear H1
                by_cases c11 : ((rd_T43 l0 x10_1).f0) < x5_1
                · rw [if_pos c11] at H
                  have c11b0 : decide (((rd_T43 l0 x10_1).f0) < x5_1) = true := decide_eq_true c11
                  clear c11
                  (first | rw [c11b0] | (simp only [i64_w, i32_w]; rw [c11b0]) | skip)
                  have H' := Aside0.mk H
                  clear H
                  have hcz12_0 : w7.cell? ⟨gb238, 0, none⟩ = some (.int .i64 0) := (blk_cell BK238.out 0).trans rfl
                  have hcz12_1 : w7.cell? ⟨gb238, 1, none⟩ = some (.int .i64 0) := (blk_cell BK238.out 1).trans rfl
                  have hcz12_2 : w7.cell? ⟨gb238, 2, none⟩ = some (.string (⟨#[]⟩ : ByteArray)) := (blk_cell BK238.out 2).trans rfl
                  have hcz12_3 : w7.cell? ⟨gb238, 3, none⟩ = some (.int .i64 0) := (blk_cell BK238.out 3).trans rfl
                  have hfz12_0 := blk_frozen BK238.out 0
                  have hfz12_1 := blk_frozen BK238.out 1
                  have hfz12_2 := blk_frozen BK238.out 2
                  have hfz12_3 := blk_frozen BK238.out 3
                  go_wp2_with (first | ((with_reducible refine gate_callee (f := 48) rfl ?_); refine goesL_ (some 16) rfl rfl Try.func48 (by kernel_rfl) rfl #[.string ((rd_T43 l0 x10_1).f2)] rfl (by (try simp only [List.map_toArray, List.map_cons, List.map_nil]); first | done | rfl | (simp only [List.length_drop, List.length_take]; rfl)) ?_; (with_reducible refine (objf_isName.calls ((rd_T43 l0 x10_1).f2) true _ A9.out).mono ?_); rintro e w' ⟨rfl, ⟨nd, rfl⟩⟩; refine ⟨_, rfl, ?_⟩))
                  go_meet
                  case rel => exact ⟨_, (true), (by first | rfl | (simp; done) | (simp [*]; done)), H', ⟨by have := HK1.out; first | omega | exact Nat.le_refl _⟩, ⟨by (with_reducible repeat (first | refine blk_drewN ?_ _ | refine blk_drew ?_ | refine blk_alloc ?_ _)); refine blk_put (cs := #[.int .i64 ((rd_T43 l0 x10_1).f0), .int .i64 ((rd_T43 l0 x10_1).f1), .string ((rd_T43 l0 x10_1).f2), .int .i64 0]) ?_ 3 _ rfl; (with_reducible repeat (first | refine blk_drewN ?_ _ | refine blk_drew ?_ | refine blk_alloc ?_ _)); refine blk_put (cs := #[.int .i64 ((rd_T43 l0 x10_1).f0), .int .i64 ((rd_T43 l0 x10_1).f1), .string (⟨#[]⟩ : ByteArray), .int .i64 0]) ?_ 2 _ rfl; (with_reducible repeat (first | refine blk_drewN ?_ _ | refine blk_drew ?_ | refine blk_alloc ?_ _)); refine blk_put (cs := #[.int .i64 ((rd_T43 l0 x10_1).f0), .int .i64 0, .string (⟨#[]⟩ : ByteArray), .int .i64 0]) ?_ 1 _ rfl; (with_reducible repeat (first | refine blk_drewN ?_ _ | refine blk_drew ?_ | refine blk_alloc ?_ _)); refine blk_put (cs := #[.int .i64 0, .int .i64 0, .string (⟨#[]⟩ : ByteArray), .int .i64 0]) ?_ 0 _ rfl; (with_reducible repeat (first | refine blk_drewN ?_ _ | refine blk_drew ?_ | refine blk_alloc ?_ _)); exact BK238.out⟩, ⟨by repeat (first | (with_reducible first | exact HB.out | apply below_alloc | apply pw_below_drewN | apply below_drew1 | refine below_set ?_ GE238.out) | exact HB.out)⟩⟩
                · rw [if_neg c11] at H
                  have c11b0 : decide (((rd_T43 l0 x10_1).f0) < x5_1) = false := decide_eq_false c11
                  clear c11
                  (first | rw [c11b0] | (simp only [i64_w, i32_w]; rw [c11b0]) | skip)
                  have H' := Aside0.mk H
                  clear H
                  have hcz13_0 : w7.cell? ⟨gb238, 0, none⟩ = some (.int .i64 0) := (blk_cell BK238.out 0).trans rfl
                  have hcz13_1 : w7.cell? ⟨gb238, 1, none⟩ = some (.int .i64 0) := (blk_cell BK238.out 1).trans rfl
                  have hcz13_2 : w7.cell? ⟨gb238, 2, none⟩ = some (.string (⟨#[]⟩ : ByteArray)) := (blk_cell BK238.out 2).trans rfl
                  have hcz13_3 : w7.cell? ⟨gb238, 3, none⟩ = some (.int .i64 0) := (blk_cell BK238.out 3).trans rfl
                  have hfz13_0 := blk_frozen BK238.out 0
                  have hfz13_1 := blk_frozen BK238.out 1
                  have hfz13_2 := blk_frozen BK238.out 2
                  have hfz13_3 := blk_frozen BK238.out 3
                  go_wp2_with (first | ((with_reducible refine gate_callee (f := 48) rfl ?_); refine goesL_ (some 16) rfl rfl Try.func48 (by kernel_rfl) rfl #[.string ((rd_T43 l0 x10_1).f2)] rfl (by (try simp only [List.map_toArray, List.map_cons, List.map_nil]); first | done | rfl | (simp only [List.length_drop, List.length_take]; rfl)) ?_; (with_reducible refine (objf_isName.calls ((rd_T43 l0 x10_1).f2) true _ A9.out).mono ?_); rintro e w' ⟨rfl, ⟨nd, rfl⟩⟩; refine ⟨_, rfl, ?_⟩))
                  go_meet
                  case rel => exact ⟨_, (decide (((rd_T43 l0 x10_1).f0) > (wrap64 (a1 - 4)))), (by first | rfl | (simp; done) | (simp [*]; done)), H', ⟨by have := HK1.out; first | omega | exact Nat.le_refl _⟩, ⟨by (with_reducible repeat (first | refine blk_drewN ?_ _ | refine blk_drew ?_ | refine blk_alloc ?_ _)); refine blk_put (cs := #[.int .i64 ((rd_T43 l0 x10_1).f0), .int .i64 ((rd_T43 l0 x10_1).f1), .string ((rd_T43 l0 x10_1).f2), .int .i64 0]) ?_ 3 _ rfl; (with_reducible repeat (first | refine blk_drewN ?_ _ | refine blk_drew ?_ | refine blk_alloc ?_ _)); refine blk_put (cs := #[.int .i64 ((rd_T43 l0 x10_1).f0), .int .i64 ((rd_T43 l0 x10_1).f1), .string (⟨#[]⟩ : ByteArray), .int .i64 0]) ?_ 2 _ rfl; (with_reducible repeat (first | refine blk_drewN ?_ _ | refine blk_drew ?_ | refine blk_alloc ?_ _)); refine blk_put (cs := #[.int .i64 ((rd_T43 l0 x10_1).f0), .int .i64 0, .string (⟨#[]⟩ : ByteArray), .int .i64 0]) ?_ 1 _ rfl; (with_reducible repeat (first | refine blk_drewN ?_ _ | refine blk_drew ?_ | refine blk_alloc ?_ _)); refine blk_put (cs := #[.int .i64 0, .int .i64 0, .string (⟨#[]⟩ : ByteArray), .int .i64 0]) ?_ 0 _ rfl; (with_reducible repeat (first | refine blk_drewN ?_ _ | refine blk_drew ?_ | refine blk_alloc ?_ _)); exact BK238.out⟩, ⟨by repeat (first | (with_reducible first | exact HB.out | apply below_alloc | apply pw_below_drewN | apply below_drew1 | refine below_set ?_ GE238.out) | exact HB.out)⟩⟩
              · replace c10 := Bool.eq_false_iff.mpr c10
                subst c10
                have H1 : (objf_relocations.j1 k1 l0 a1 l0 (l0.length : Int) x10_1 true ((rd_T43 l0 x10_1).f0) ((rd_T43 l0 x10_1).f1) ((rd_T43 l0 x10_1).f2) ((rd_T43 l0 x10_1).f3)) = some r := by rw [if_neg (show ¬ (false = true) by decide)] at H; exact H
                clear H
                have H := H1
                clear H1
                have H' := Aside0.mk H
                clear H
                have hcz14_0 : w7.cell? ⟨gb238, 0, none⟩ = some (.int .i64 0) := (blk_cell BK238.out 0).trans rfl
                have hcz14_1 : w7.cell? ⟨gb238, 1, none⟩ = some (.int .i64 0) := (blk_cell BK238.out 1).trans rfl
                have hcz14_2 : w7.cell? ⟨gb238, 2, none⟩ = some (.string (⟨#[]⟩ : ByteArray)) := (blk_cell BK238.out 2).trans rfl
                have hcz14_3 : w7.cell? ⟨gb238, 3, none⟩ = some (.int .i64 0) := (blk_cell BK238.out 3).trans rfl
                have hfz14_0 := blk_frozen BK238.out 0
                have hfz14_1 := blk_frozen BK238.out 1
                have hfz14_2 := blk_frozen BK238.out 2
                have hfz14_3 := blk_frozen BK238.out 3
                go_wp2_with (first | ((with_reducible refine gate_callee (f := 48) rfl ?_); refine goesL_ (some 16) rfl rfl Try.func48 (by kernel_rfl) rfl #[.string ((rd_T43 l0 x10_1).f2)] rfl (by (try simp only [List.map_toArray, List.map_cons, List.map_nil]); first | done | rfl | (simp only [List.length_drop, List.length_take]; rfl)) ?_; (with_reducible refine (objf_isName.calls ((rd_T43 l0 x10_1).f2) false _ A9.out).mono ?_); rintro e w' ⟨rfl, ⟨nd, rfl⟩⟩; refine ⟨_, rfl, ?_⟩))
                go_meet
                case rel => exact ⟨_, (true), (by first | rfl | (simp; done) | (simp [*]; done)), H', ⟨by have := HK1.out; first | omega | exact Nat.le_refl _⟩, ⟨by (with_reducible repeat (first | refine blk_drewN ?_ _ | refine blk_drew ?_ | refine blk_alloc ?_ _)); refine blk_put (cs := #[.int .i64 ((rd_T43 l0 x10_1).f0), .int .i64 ((rd_T43 l0 x10_1).f1), .string ((rd_T43 l0 x10_1).f2), .int .i64 0]) ?_ 3 _ rfl; (with_reducible repeat (first | refine blk_drewN ?_ _ | refine blk_drew ?_ | refine blk_alloc ?_ _)); refine blk_put (cs := #[.int .i64 ((rd_T43 l0 x10_1).f0), .int .i64 ((rd_T43 l0 x10_1).f1), .string (⟨#[]⟩ : ByteArray), .int .i64 0]) ?_ 2 _ rfl; (with_reducible repeat (first | refine blk_drewN ?_ _ | refine blk_drew ?_ | refine blk_alloc ?_ _)); refine blk_put (cs := #[.int .i64 ((rd_T43 l0 x10_1).f0), .int .i64 0, .string (⟨#[]⟩ : ByteArray), .int .i64 0]) ?_ 1 _ rfl; (with_reducible repeat (first | refine blk_drewN ?_ _ | refine blk_drew ?_ | refine blk_alloc ?_ _)); refine blk_put (cs := #[.int .i64 0, .int .i64 0, .string (⟨#[]⟩ : ByteArray), .int .i64 0]) ?_ 0 _ rfl; (with_reducible repeat (first | refine blk_drewN ?_ _ | refine blk_drew ?_ | refine blk_alloc ?_ _)); exact BK238.out⟩, ⟨by repeat (first | (with_reducible first | exact HB.out | apply below_alloc | apply pw_below_drewN | apply below_drew1 | refine below_set ?_ GE238.out) | exact HB.out)⟩⟩
            case rest =>
              clear HC6
              try clear c1
              try clear c2
              try clear p2
              try clear q2
              try clear hx2
              try clear c3
              try clear c3b0
              try clear c4
              try clear c4b0
              try clear c5
              try clear c5b0
              try clear p6
              try clear c10
              try clear c11
              try clear c11b0
              try clear hcz12_0
              try clear hcz12_1
              try clear hcz12_2
              try clear hcz12_3
              try clear hcz13_0
              try clear hcz13_1
              try clear hcz13_2
              try clear hcz13_3
              try clear hcz14_0
              try clear hcz14_1
              try clear hcz14_2
              try clear hcz14_3
              try clear hcz8_0
              try clear hcz8_1
              try clear hcz8_2
              try clear hcz8_3
              try clear hfz12_0
              try clear hfz12_1
              try clear hfz12_2
              try clear hfz12_3
              try clear hfz13_0
              try clear hfz13_1
              try clear hfz13_2
              try clear hfz13_3
              try clear hfz14_0
              try clear hfz14_1
              try clear hfz14_2
              try clear hfz14_3
              try clear hfz8_0
              try clear hfz8_1
              try clear hfz8_2
              try clear hfz8_3
              try clear hx237_0
              try clear hx237_1
              try clear hx237_2
              try clear hx237_3
              try clear p2
              try clear p237
              try clear q237
              obtain ⟨kq, x30_5, rfl, HA, HJ5, BK238, HB⟩ := hcut
              cases kq with
              | zero => exact absurd HA.out (by simp [objf_relocations.j1])
              | succ kj5 =>
                have H := HA.out
                clear HA
                simp only [objf_relocations.j1] at H
                by_cases c15 : x30_5 = true
                · subst c15
                  have H1 : (some false) = some r := by rw [if_pos rfl] at H; exact H
                  clear H
                  have H := H1
                  clear H1
                  obtain rfl := Option.some.inj H
                  go_wp2
                  go_ret
                  exact ⟨by first | rfl | (simp [errW_none, errW_some] <;> rfl) | (simp [*, errW_none, errW_some] <;> rfl), by repeat (first | (with_reducible first | exact HB.out | apply below_alloc | apply pw_below_drewN | apply below_drew1 | refine below_set ?_ GE238.out) | exact HB.out)⟩
                · replace c15 := Bool.eq_false_iff.mpr c15
                  subst c15
                  have H1 : (if ((rd_T43 l0 x10_1).f1) = 1 then (if ((rd_T43 l0 x10_1).f3) = 0 then (objf_relocations.l0 kj5 l0 a1 (wrap64 (((rd_T43 l0 x10_1).f0) + 4)) l0 (l0.length : Int) (wrap64 (x10_1 + 1))) else (some false)) else (if ((rd_T43 l0 x10_1).f1) = 2 then (if ((rd_T43 l0 x10_1).f3) < (-2147483648) then (some false) else (if ((rd_T43 l0 x10_1).f3) > 2147483647 then (some false) else (objf_relocations.l0 kj5 l0 a1 (wrap64 (((rd_T43 l0 x10_1).f0) + 4)) l0 (l0.length : Int) (wrap64 (x10_1 + 1))))) else (some false))) = some r := by rw [if_neg (show ¬ (false = true) by decide)] at H; exact H
                  clear H
                  have H := H1
                  clear H1
                  by_cases c16 : ((rd_T43 l0 x10_1).f1) = 1
                  · rw [if_pos c16] at H
                    have c16b0 : (((rd_T43 l0 x10_1).f1) == 1) = true := beq_iff_eq.mpr c16
                    have c16b1 : (((rd_T43 l0 x10_1).f1) != 1) = false := bne_eq_false_iff_eq.mpr c16
                    clear c16
                    by_cases c17 : ((rd_T43 l0 x10_1).f3) = 0
                    · rw [if_pos c17] at H
                      have c17b0 : (((rd_T43 l0 x10_1).f3) == 0) = true := beq_iff_eq.mpr c17
                      have c17b1 : (((rd_T43 l0 x10_1).f3) != 0) = false := bne_eq_false_iff_eq.mpr c17
                      clear c17
                      have H' := Aside0.mk H
                      clear H
                      have hcz18_0 : wc.cell? ⟨gb238, 0, none⟩ = some (.int .i64 ((rd_T43 l0 x10_1).f0)) := (blk_cell BK238.out 0).trans rfl
                      have hcz18_1 : wc.cell? ⟨gb238, 1, none⟩ = some (.int .i64 ((rd_T43 l0 x10_1).f1)) := (blk_cell BK238.out 1).trans rfl
                      have hcz18_2 : wc.cell? ⟨gb238, 2, none⟩ = some (.string ((rd_T43 l0 x10_1).f2)) := (blk_cell BK238.out 2).trans rfl
                      have hcz18_3 : wc.cell? ⟨gb238, 3, none⟩ = some (.int .i64 ((rd_T43 l0 x10_1).f3)) := (blk_cell BK238.out 3).trans rfl
                      have hfz18_0 := blk_frozen BK238.out 0
                      have hfz18_1 := blk_frozen BK238.out 1
                      have hfz18_2 := blk_frozen BK238.out 2
                      have hfz18_3 := blk_frozen BK238.out 3
                      go_wp2
                      go_roundg kj5
                      case measure => have := HK1.out; have := HJ5.out; omega
                      case rel => exact ⟨(wrap64 (((rd_T43 l0 x10_1).f0) + 4)), (wrap64 (x10_1 + 1)), (by first | rfl | (simp; done) | (simp [*]; done)), (by first | rfl | (simp; done) | (simp [*]; done)), H', ⟨by have := HK1.out; have := HJ5.out; omega⟩, ⟨by repeat (first | (with_reducible first | exact HB.out | apply below_alloc | apply pw_below_drewN | apply below_drew1 | refine below_set ?_ GE238.out) | exact HB.out)⟩⟩
                    · rw [if_neg c17] at H
                      have c17b0 : (((rd_T43 l0 x10_1).f3) == 0) = false := beq_eq_false_iff_ne.mpr c17
                      have c17b1 : (((rd_T43 l0 x10_1).f3) != 0) = true := bne_iff_ne.mpr c17
                      obtain rfl := Option.some.inj H
                      have hcz19_0 : wc.cell? ⟨gb238, 0, none⟩ = some (.int .i64 ((rd_T43 l0 x10_1).f0)) := (blk_cell BK238.out 0).trans rfl
                      have hcz19_1 : wc.cell? ⟨gb238, 1, none⟩ = some (.int .i64 ((rd_T43 l0 x10_1).f1)) := (blk_cell BK238.out 1).trans rfl
                      have hcz19_2 : wc.cell? ⟨gb238, 2, none⟩ = some (.string ((rd_T43 l0 x10_1).f2)) := (blk_cell BK238.out 2).trans rfl
                      have hcz19_3 : wc.cell? ⟨gb238, 3, none⟩ = some (.int .i64 ((rd_T43 l0 x10_1).f3)) := (blk_cell BK238.out 3).trans rfl
                      have hfz19_0 := blk_frozen BK238.out 0
                      have hfz19_1 := blk_frozen BK238.out 1
                      have hfz19_2 := blk_frozen BK238.out 2
                      have hfz19_3 := blk_frozen BK238.out 3
                      go_wp2
                      go_ret
                      exact ⟨by first | rfl | (simp [errW_none, errW_some] <;> rfl) | (simp [*, errW_none, errW_some] <;> rfl), by repeat (first | (with_reducible first | exact HB.out | apply below_alloc | apply pw_below_drewN | apply below_drew1 | refine below_set ?_ GE238.out) | exact HB.out)⟩
                  · rw [if_neg c16] at H
                    have c16b0 : (((rd_T43 l0 x10_1).f1) == 1) = false := beq_eq_false_iff_ne.mpr c16
                    have c16b1 : (((rd_T43 l0 x10_1).f1) != 1) = true := bne_iff_ne.mpr c16
                    by_cases c20 : ((rd_T43 l0 x10_1).f1) = 2
                    · rw [if_pos c20] at H
                      have c20b0 : (((rd_T43 l0 x10_1).f1) == 2) = true := beq_iff_eq.mpr c20
                      have c20b1 : (((rd_T43 l0 x10_1).f1) != 2) = false := bne_eq_false_iff_eq.mpr c20
                      clear c20
                      by_cases c21 : ((rd_T43 l0 x10_1).f3) < (-2147483648)
                      · rw [if_pos c21] at H
                        have c21b0 : decide (((rd_T43 l0 x10_1).f3) < (-2147483648)) = true := decide_eq_true c21
                        clear c21
                        obtain rfl := Option.some.inj H
                        have hcz22_0 : wc.cell? ⟨gb238, 0, none⟩ = some (.int .i64 ((rd_T43 l0 x10_1).f0)) := (blk_cell BK238.out 0).trans rfl
                        have hcz22_1 : wc.cell? ⟨gb238, 1, none⟩ = some (.int .i64 ((rd_T43 l0 x10_1).f1)) := (blk_cell BK238.out 1).trans rfl
                        have hcz22_2 : wc.cell? ⟨gb238, 2, none⟩ = some (.string ((rd_T43 l0 x10_1).f2)) := (blk_cell BK238.out 2).trans rfl
                        have hcz22_3 : wc.cell? ⟨gb238, 3, none⟩ = some (.int .i64 ((rd_T43 l0 x10_1).f3)) := (blk_cell BK238.out 3).trans rfl
                        have hfz22_0 := blk_frozen BK238.out 0
                        have hfz22_1 := blk_frozen BK238.out 1
                        have hfz22_2 := blk_frozen BK238.out 2
                        have hfz22_3 := blk_frozen BK238.out 3
                        go_wp2
                        go_ret
                        exact ⟨by first | rfl | (simp [errW_none, errW_some] <;> rfl) | (simp [*, errW_none, errW_some] <;> rfl), by repeat (first | (with_reducible first | exact HB.out | apply below_alloc | apply pw_below_drewN | apply below_drew1 | refine below_set ?_ GE238.out) | exact HB.out)⟩
                      · rw [if_neg c21] at H
                        have c21b0 : decide (((rd_T43 l0 x10_1).f3) < (-2147483648)) = false := decide_eq_false c21
                        clear c21
                        by_cases c23 : ((rd_T43 l0 x10_1).f3) > 2147483647
                        · rw [if_pos c23] at H
                          have c23b0 : decide (2147483647 < ((rd_T43 l0 x10_1).f3)) = true := decide_eq_true c23
                          clear c23
                          obtain rfl := Option.some.inj H
                          have hcz24_0 : wc.cell? ⟨gb238, 0, none⟩ = some (.int .i64 ((rd_T43 l0 x10_1).f0)) := (blk_cell BK238.out 0).trans rfl
                          have hcz24_1 : wc.cell? ⟨gb238, 1, none⟩ = some (.int .i64 ((rd_T43 l0 x10_1).f1)) := (blk_cell BK238.out 1).trans rfl
                          have hcz24_2 : wc.cell? ⟨gb238, 2, none⟩ = some (.string ((rd_T43 l0 x10_1).f2)) := (blk_cell BK238.out 2).trans rfl
                          have hcz24_3 : wc.cell? ⟨gb238, 3, none⟩ = some (.int .i64 ((rd_T43 l0 x10_1).f3)) := (blk_cell BK238.out 3).trans rfl
                          have hfz24_0 := blk_frozen BK238.out 0
                          have hfz24_1 := blk_frozen BK238.out 1
                          have hfz24_2 := blk_frozen BK238.out 2
                          have hfz24_3 := blk_frozen BK238.out 3
                          go_wp2
                          go_ret
                          exact ⟨by first | rfl | (simp [errW_none, errW_some] <;> rfl) | (simp [*, errW_none, errW_some] <;> rfl), by repeat (first | (with_reducible first | exact HB.out | apply below_alloc | apply pw_below_drewN | apply below_drew1 | refine below_set ?_ GE238.out) | exact HB.out)⟩
                        · rw [if_neg c23] at H
                          have c23b0 : decide (2147483647 < ((rd_T43 l0 x10_1).f3)) = false := decide_eq_false c23
                          clear c23
                          have H' := Aside0.mk H
                          clear H
                          have hcz25_0 : wc.cell? ⟨gb238, 0, none⟩ = some (.int .i64 ((rd_T43 l0 x10_1).f0)) := (blk_cell BK238.out 0).trans rfl
                          have hcz25_1 : wc.cell? ⟨gb238, 1, none⟩ = some (.int .i64 ((rd_T43 l0 x10_1).f1)) := (blk_cell BK238.out 1).trans rfl
                          have hcz25_2 : wc.cell? ⟨gb238, 2, none⟩ = some (.string ((rd_T43 l0 x10_1).f2)) := (blk_cell BK238.out 2).trans rfl
                          have hcz25_3 : wc.cell? ⟨gb238, 3, none⟩ = some (.int .i64 ((rd_T43 l0 x10_1).f3)) := (blk_cell BK238.out 3).trans rfl
                          have hfz25_0 := blk_frozen BK238.out 0
                          have hfz25_1 := blk_frozen BK238.out 1
                          have hfz25_2 := blk_frozen BK238.out 2
                          have hfz25_3 := blk_frozen BK238.out 3
                          go_wp2
                          go_roundg kj5
                          case measure => have := HK1.out; have := HJ5.out; omega
                          case rel => exact ⟨(wrap64 (((rd_T43 l0 x10_1).f0) + 4)), (wrap64 (x10_1 + 1)), (by first | rfl | (simp; done) | (simp [*]; done)), (by first | rfl | (simp; done) | (simp [*]; done)), H', ⟨by have := HK1.out; have := HJ5.out; omega⟩, ⟨by repeat (first | (with_reducible first | exact HB.out | apply below_alloc | apply pw_below_drewN | apply below_drew1 | refine below_set ?_ GE238.out) | exact HB.out)⟩⟩
                    · rw [if_neg c20] at H
                      have c20b0 : (((rd_T43 l0 x10_1).f1) == 2) = false := beq_eq_false_iff_ne.mpr c20
                      have c20b1 : (((rd_T43 l0 x10_1).f1) != 2) = true := bne_iff_ne.mpr c20
                      obtain rfl := Option.some.inj H
                      have hcz26_0 : wc.cell? ⟨gb238, 0, none⟩ = some (.int .i64 ((rd_T43 l0 x10_1).f0)) := (blk_cell BK238.out 0).trans rfl
                      have hcz26_1 : wc.cell? ⟨gb238, 1, none⟩ = some (.int .i64 ((rd_T43 l0 x10_1).f1)) := (blk_cell BK238.out 1).trans rfl
                      have hcz26_2 : wc.cell? ⟨gb238, 2, none⟩ = some (.string ((rd_T43 l0 x10_1).f2)) := (blk_cell BK238.out 2).trans rfl
                      have hcz26_3 : wc.cell? ⟨gb238, 3, none⟩ = some (.int .i64 ((rd_T43 l0 x10_1).f3)) := (blk_cell BK238.out 3).trans rfl
                      have hfz26_0 := blk_frozen BK238.out 0
                      have hfz26_1 := blk_frozen BK238.out 1
                      have hfz26_2 := blk_frozen BK238.out 2
                      have hfz26_3 := blk_frozen BK238.out 3
                      go_wp2
                      go_ret
                      exact ⟨by first | rfl | (simp [errW_none, errW_some] <;> rfl) | (simp [*, errW_none, errW_some] <;> rfl), by repeat (first | (with_reducible first | exact HB.out | apply below_alloc | apply pw_below_drewN | apply below_drew1 | refine below_set ?_ GE238.out) | exact HB.out)⟩
          · rw [if_neg c5] at H
            exact absurd H (by simp)
        · rw [if_neg c4] at H
          exact absurd H (by simp)
      · rw [if_neg c3] at H
        have c3b0 : decide (x10_1 < (l0.length : Int)) = false := decide_eq_false c3
        clear c3
        obtain rfl := Option.some.inj H
        go_wp2
        go_ret
        exact ⟨by first | rfl | (simp [errW_none, errW_some] <;> rfl) | (simp [*, errW_none, errW_some] <;> rfl), by repeat (first | (with_reducible first | exact HB.out | apply below_alloc | apply pw_below_drewN | apply below_drew1) | exact HB.out)⟩

/-! ### objf_Check: function 13 -/
def objf_Check.f (k : Nat) (a0_0 : ByteArray) (l0_1 : List Int) (l0_2 : List (S41)) (l0_3 : List (S43)) : Option (Int) := if (a0_0.size : Int) > 65536 then (some 1) else (if (l0_1.length : Int) > 4096 then (some 1) else ((objf_symbols.f l0_2 (a0_0.size : Int) (l0_1.length : Int)).bind fun t241 => (if t241 = true then ((objf_relocations.f k l0_3 (a0_0.size : Int)).bind fun t242 => (if t242 = true then (some 0) else (some 1))) else (some 1))))
set_option maxHeartbeats 8000000 in
set_option maxRecDepth 100000 in
theorem objf_Check.calls (k : Nat) (a0_0 : ByteArray) (A0_1 : Option Addr) (c0_1 : Nat) (l0_1 : List Int) (A0_2 : Option Addr) (c0_2 : Nat) (l0_2 : List (S41)) (A0_3 : Option Addr) (c0_3 : Nat) (l0_3 : List (S43)) (r : Int) (w : World) (hr0_1 : Kd.C (Kd.int .i64) w A0_1 l0_1.length l0_1) (hc0_1 : l0_1.length ≤ c0_1) (hr0_2 : Kd.C k41 w A0_2 l0_2.length l0_2) (hc0_2 : l0_2.length ≤ c0_2) (hr0_3 : Kd.C k43 w A0_3 l0_3.length l0_3) (hc0_3 : l0_3.length ≤ c0_3) (h : objf_Check.f k a0_0 l0_1 l0_2 l0_3 = some r) :
    Calls Try.prog 13 #[.agg #[.string a0_0, .slice A0_1 l0_1.length c0_1, .slice A0_2 l0_2.length c0_2, .slice A0_3 l0_3.length c0_3]] w fun e w' => e = .returned (.int .i64 r) ∧ Below w.heap.size w w' := by
  have hu26 := Try.underlying26
  have HR0_1 := Aside0.mk hr0_1
  have HC0_1 := Aside0.mk hc0_1
  clear hr0_1 hc0_1
  have HR0_2 := Aside0.mk hr0_2
  have HC0_2 := Aside0.mk hc0_2
  clear hr0_2 hc0_2
  have HR0_3 := Aside0.mk hr0_3
  have HC0_3 := Aside0.mk hc0_3
  clear hr0_3 hc0_3
  have HB := Aside0.mk (Below.refl w.heap.size w)
  have H : (if (a0_0.size : Int) > 65536 then (some 1) else (if (l0_1.length : Int) > 4096 then (some 1) else ((objf_symbols.f l0_2 (a0_0.size : Int) (l0_1.length : Int)).bind fun t241 => (if t241 = true then ((objf_relocations.f k l0_3 (a0_0.size : Int)).bind fun t242 => (if t242 = true then (some 0) else (some 1))) else (some 1))))) = some r := h
  clear h
  by_cases c2 : (a0_0.size : Int) > 65536
  · rw [if_pos c2] at H
    have c2b0 : decide (65536 < (a0_0.size : Int)) = true := decide_eq_true c2
    have c2b1 : decide (65536 < a0_0.size) = true := decide_eq_true (by omega)
    clear c2
    obtain rfl := Option.some.inj H
    go_enter Try.func13, Try.ntmps13
    go_wp2_with (first | ((with_reducible refine gate_dst (N := 1) rfl ?_); (try (refine gate_guard (by rfl) ?_; dsimp only)); refine box_event ?hg (N := 1) ?hd (cs := #[.string a0_0, .slice A0_1 l0_1.length c0_1, .slice A0_2 l0_2.length c0_2, .slice A0_3 l0_3.length c0_3]) (t := 26) ?hr ?_; (case hd => rfl); (case hg => rfl); (case hr => first | (go_simp; done) | (go_simp; rfl)); intro gb240 hg w3 hbox hb; have n0_ := Aside0.mk (below_step (by repeat (first | (with_reducible first | exact HB.out | apply below_alloc | apply pw_below_drewN | apply below_drew1) | exact HB.out)) hb); have n1_ := Aside0.mk (hbox); have n2_ := Aside0.mk ((by rw [hg]; exact (below_size (by repeat (first | (with_reducible first | exact HB.out | apply below_alloc | apply pw_below_drewN | apply below_drew1) | exact HB.out))) : w.heap.size ≤ gb240)); have n3_ := Aside0.mk ((by rw [hg]; exact (below_size (by repeat (first | (with_reducible first | exact HB.out | apply below_alloc | apply pw_below_drewN | apply below_drew1) | exact HB.out))) : w.heap.size ≤ gb240)); clear HB; have HB := n0_; have BK240 := n1_; have GW240 := n2_; have GE240 := n3_; clear n0_ n1_ n2_ n3_; clear hb hbox hg; have hcz4_0 : w3.cell? ⟨gb240, 0, none⟩ = some (.string a0_0) := (blk_cell BK240.out 0).trans rfl; have hcz4_1 : w3.cell? ⟨gb240, 1, none⟩ = some (.slice A0_1 l0_1.length c0_1) := (blk_cell BK240.out 1).trans rfl; have hcz4_2 : w3.cell? ⟨gb240, 2, none⟩ = some (.slice A0_2 l0_2.length c0_2) := (blk_cell BK240.out 2).trans rfl; have hcz4_3 : w3.cell? ⟨gb240, 3, none⟩ = some (.slice A0_3 l0_3.length c0_3) := (blk_cell BK240.out 3).trans rfl; have hfz4_0 := blk_frozen BK240.out 0; have hfz4_1 := blk_frozen BK240.out 1; have hfz4_2 := blk_frozen BK240.out 2; have hfz4_3 := blk_frozen BK240.out 3))
    go_ret
    exact ⟨by first | rfl | (simp [errW_none, errW_some] <;> rfl) | (simp [*, errW_none, errW_some] <;> rfl), by repeat (first | (with_reducible first | exact HB.out | apply below_alloc | apply pw_below_drewN | apply below_drew1 | refine below_set ?_ GE240.out) | exact HB.out)⟩
  · rw [if_neg c2] at H
    have c2b0 : decide (65536 < (a0_0.size : Int)) = false := decide_eq_false c2
    have c2b1 : decide (65536 < a0_0.size) = false := decide_eq_false (by omega)
    clear c2
    by_cases c5 : (l0_1.length : Int) > 4096
    · rw [if_pos c5] at H
      have c5b0 : decide (4096 < (l0_1.length : Int)) = true := decide_eq_true c5
      have c5b1 : decide (4096 < l0_1.length) = true := decide_eq_true (by omega)
      clear c5
      obtain rfl := Option.some.inj H
      go_enter Try.func13, Try.ntmps13
      go_wp2_with (first | ((with_reducible refine gate_dst (N := 1) rfl ?_); (try (refine gate_guard (by rfl) ?_; dsimp only)); refine box_event ?hg (N := 1) ?hd (cs := #[.string a0_0, .slice A0_1 l0_1.length c0_1, .slice A0_2 l0_2.length c0_2, .slice A0_3 l0_3.length c0_3]) (t := 26) ?hr ?_; (case hd => rfl); (case hg => rfl); (case hr => first | (go_simp; done) | (go_simp; rfl)); intro gb240 hg w6 hbox hb; have n0_ := Aside0.mk (below_step (by repeat (first | (with_reducible first | exact HB.out | apply below_alloc | apply pw_below_drewN | apply below_drew1) | exact HB.out)) hb); have n1_ := Aside0.mk (hbox); have n2_ := Aside0.mk ((by rw [hg]; exact (below_size (by repeat (first | (with_reducible first | exact HB.out | apply below_alloc | apply pw_below_drewN | apply below_drew1) | exact HB.out))) : w.heap.size ≤ gb240)); have n3_ := Aside0.mk ((by rw [hg]; exact (below_size (by repeat (first | (with_reducible first | exact HB.out | apply below_alloc | apply pw_below_drewN | apply below_drew1) | exact HB.out))) : w.heap.size ≤ gb240)); clear HB; have HB := n0_; have BK240 := n1_; have GW240 := n2_; have GE240 := n3_; clear n0_ n1_ n2_ n3_; clear hb hbox hg; have hcz7_0 : w6.cell? ⟨gb240, 0, none⟩ = some (.string a0_0) := (blk_cell BK240.out 0).trans rfl; have hcz7_1 : w6.cell? ⟨gb240, 1, none⟩ = some (.slice A0_1 l0_1.length c0_1) := (blk_cell BK240.out 1).trans rfl; have hcz7_2 : w6.cell? ⟨gb240, 2, none⟩ = some (.slice A0_2 l0_2.length c0_2) := (blk_cell BK240.out 2).trans rfl; have hcz7_3 : w6.cell? ⟨gb240, 3, none⟩ = some (.slice A0_3 l0_3.length c0_3) := (blk_cell BK240.out 3).trans rfl; have hfz7_0 := blk_frozen BK240.out 0; have hfz7_1 := blk_frozen BK240.out 1; have hfz7_2 := blk_frozen BK240.out 2; have hfz7_3 := blk_frozen BK240.out 3))
      go_ret
      exact ⟨by first | rfl | (simp [errW_none, errW_some] <;> rfl) | (simp [*, errW_none, errW_some] <;> rfl), by repeat (first | (with_reducible first | exact HB.out | apply below_alloc | apply pw_below_drewN | apply below_drew1 | refine below_set ?_ GE240.out) | exact HB.out)⟩
    · rw [if_neg c5] at H
      have c5b0 : decide (4096 < (l0_1.length : Int)) = false := decide_eq_false c5
      have c5b1 : decide (4096 < l0_1.length) = false := decide_eq_false (by omega)
      clear c5
      replace H := Option.bind_eq_some_iff.mp H
      obtain ⟨t241, A80, H⟩ := H
      replace H : (if t241 = true then ((objf_relocations.f k l0_3 (a0_0.size : Int)).bind fun t242 => (if t242 = true then (some 0) else (some 1))) else (some 1)) = some r := H
      have A8 := Aside0.mk A80
      clear A80
      by_cases c9 : t241 = true
      · subst c9
        have H1 : ((objf_relocations.f k l0_3 (a0_0.size : Int)).bind fun t242 => (if t242 = true then (some 0) else (some 1))) = some r := by rw [if_pos rfl] at H; exact H
        clear H
        have H := H1
        clear H1
        replace H := Option.bind_eq_some_iff.mp H
        obtain ⟨t242, A100, H⟩ := H
        replace H : (if t242 = true then (some 0) else (some 1)) = some r := H
        have A10 := Aside0.mk A100
        clear A100
        by_cases c11 : t242 = true
        · subst c11
          have H1 : (some 0) = some r := by rw [if_pos rfl] at H; exact H
          clear H
          have H := H1
          clear H1
          obtain rfl := Option.some.inj H
          go_enter Try.func13, Try.ntmps13
          go_wp2_with (first | ((with_reducible refine gate_dst (N := 1) rfl ?_); (try (refine gate_guard (by rfl) ?_; dsimp only)); refine box_event ?hg (N := 1) ?hd (cs := #[.string a0_0, .slice A0_1 l0_1.length c0_1, .slice A0_2 l0_2.length c0_2, .slice A0_3 l0_3.length c0_3]) (t := 26) ?hr ?_; (case hd => rfl); (case hg => rfl); (case hr => first | (go_simp; done) | (go_simp; rfl)); intro gb240 hg w12 hbox hb; have n0_ := Aside0.mk (below_step (by repeat (first | (with_reducible first | exact HB.out | apply below_alloc | apply pw_below_drewN | apply below_drew1) | exact HB.out)) hb); have n1_ := Aside0.mk (hbox); have n2_ := Aside0.mk ((by rw [hg]; exact (below_size (by repeat (first | (with_reducible first | exact HB.out | apply below_alloc | apply pw_below_drewN | apply below_drew1) | exact HB.out))) : w.heap.size ≤ gb240)); have n3_ := Aside0.mk ((by rw [hg]; exact (below_size (by repeat (first | (with_reducible first | exact HB.out | apply below_alloc | apply pw_below_drewN | apply below_drew1) | exact HB.out))) : w.heap.size ≤ gb240)); clear HB; have HB := n0_; have BK240 := n1_; have GW240 := n2_; have GE240 := n3_; clear n0_ n1_ n2_ n3_; clear hb hbox hg; have hcz13_0 : w12.cell? ⟨gb240, 0, none⟩ = some (.string a0_0) := (blk_cell BK240.out 0).trans rfl; have hcz13_1 : w12.cell? ⟨gb240, 1, none⟩ = some (.slice A0_1 l0_1.length c0_1) := (blk_cell BK240.out 1).trans rfl; have hcz13_2 : w12.cell? ⟨gb240, 2, none⟩ = some (.slice A0_2 l0_2.length c0_2) := (blk_cell BK240.out 2).trans rfl; have hcz13_3 : w12.cell? ⟨gb240, 3, none⟩ = some (.slice A0_3 l0_3.length c0_3) := (blk_cell BK240.out 3).trans rfl; have hfz13_0 := blk_frozen BK240.out 0; have hfz13_1 := blk_frozen BK240.out 1; have hfz13_2 := blk_frozen BK240.out 2; have hfz13_3 := blk_frozen BK240.out 3) | (go_at_call 27; (with_reducible refine (objf_symbols.calls _ _ l0_2 (a0_0.size : Int) (l0_1.length : Int) true _ ?side1 ?side2 A8.out).mono ?_); (case side1 => repeat (first | exact (Kd.C_below HR0_2.out HB.out) | (with_reducible refine Kd.C_alloc ?_ _) | (with_reducible refine Kd.C_drewN ?_ _) | (with_reducible refine Kd.C_drew ?_))); (case side2 => exact HC0_2.out); rintro e w14 ⟨rfl, hb⟩; have n0_ := Aside0.mk (blk_below (g := gb240) (o := .cells #[.string a0_0, .slice A0_1 l0_1.length c0_1, .slice A0_2 l0_2.length c0_2, .slice A0_3 l0_3.length c0_3] 26 (0, 0)) (by (with_reducible repeat (first | refine blk_drewN ?_ _ | refine blk_drew ?_ | refine blk_alloc ?_ _)); exact BK240.out) hb); have n1_ := Aside0.mk (below_step (by repeat (first | (with_reducible first | exact HB.out | apply below_alloc | apply pw_below_drewN | apply below_drew1 | refine below_set ?_ GE240.out) | exact HB.out)) hb); clear BK240; clear HB; have BK240 := n0_; have HB := n1_; clear n0_ n1_; (try clear hb); (try clear hb2); (try clear hk); (try clear hi); have hcz15_0 : w14.cell? ⟨gb240, 0, none⟩ = some (.string a0_0) := (blk_cell BK240.out 0).trans rfl; have hcz15_1 : w14.cell? ⟨gb240, 1, none⟩ = some (.slice A0_1 l0_1.length c0_1) := (blk_cell BK240.out 1).trans rfl; have hcz15_2 : w14.cell? ⟨gb240, 2, none⟩ = some (.slice A0_2 l0_2.length c0_2) := (blk_cell BK240.out 2).trans rfl; have hcz15_3 : w14.cell? ⟨gb240, 3, none⟩ = some (.slice A0_3 l0_3.length c0_3) := (blk_cell BK240.out 3).trans rfl; have hfz15_0 := blk_frozen BK240.out 0; have hfz15_1 := blk_frozen BK240.out 1; have hfz15_2 := blk_frozen BK240.out 2; have hfz15_3 := blk_frozen BK240.out 3) | (go_at_call 28; (with_reducible refine (objf_relocations.calls k _ _ l0_3 (a0_0.size : Int) true _ ?side1 ?side2 A10.out).mono ?_); (case side1 => repeat (first | exact (Kd.C_below HR0_3.out HB.out) | (with_reducible refine Kd.C_alloc ?_ _) | (with_reducible refine Kd.C_drewN ?_ _) | (with_reducible refine Kd.C_drew ?_))); (case side2 => exact HC0_3.out); rintro e w16 ⟨rfl, hb⟩; have n0_ := Aside0.mk (blk_below (g := gb240) (o := .cells #[.string a0_0, .slice A0_1 l0_1.length c0_1, .slice A0_2 l0_2.length c0_2, .slice A0_3 l0_3.length c0_3] 26 (0, 0)) (by (with_reducible repeat (first | refine blk_drewN ?_ _ | refine blk_drew ?_ | refine blk_alloc ?_ _)); exact BK240.out) hb); have n1_ := Aside0.mk (below_step (by repeat (first | (with_reducible first | exact HB.out | apply below_alloc | apply pw_below_drewN | apply below_drew1 | refine below_set ?_ GE240.out) | exact HB.out)) hb); clear BK240; clear HB; have BK240 := n0_; have HB := n1_; clear n0_ n1_; (try clear hb); (try clear hb2); (try clear hk); (try clear hi)))
          go_ret
          exact ⟨by first | rfl | (simp [errW_none, errW_some] <;> rfl) | (simp [*, errW_none, errW_some] <;> rfl), by repeat (first | (with_reducible first | exact HB.out | apply below_alloc | apply pw_below_drewN | apply below_drew1 | refine below_set ?_ GE240.out) | exact HB.out)⟩
        · replace c11 := Bool.eq_false_iff.mpr c11
          subst c11
          have H1 : (some 1) = some r := by rw [if_neg (show ¬ (false = true) by decide)] at H; exact H
          clear H
          have H := H1
          clear H1
          obtain rfl := Option.some.inj H
          go_enter Try.func13, Try.ntmps13
          go_wp2_with (first | ((with_reducible refine gate_dst (N := 1) rfl ?_); (try (refine gate_guard (by rfl) ?_; dsimp only)); refine box_event ?hg (N := 1) ?hd (cs := #[.string a0_0, .slice A0_1 l0_1.length c0_1, .slice A0_2 l0_2.length c0_2, .slice A0_3 l0_3.length c0_3]) (t := 26) ?hr ?_; (case hd => rfl); (case hg => rfl); (case hr => first | (go_simp; done) | (go_simp; rfl)); intro gb240 hg w17 hbox hb; have n0_ := Aside0.mk (below_step (by repeat (first | (with_reducible first | exact HB.out | apply below_alloc | apply pw_below_drewN | apply below_drew1) | exact HB.out)) hb); have n1_ := Aside0.mk (hbox); have n2_ := Aside0.mk ((by rw [hg]; exact (below_size (by repeat (first | (with_reducible first | exact HB.out | apply below_alloc | apply pw_below_drewN | apply below_drew1) | exact HB.out))) : w.heap.size ≤ gb240)); have n3_ := Aside0.mk ((by rw [hg]; exact (below_size (by repeat (first | (with_reducible first | exact HB.out | apply below_alloc | apply pw_below_drewN | apply below_drew1) | exact HB.out))) : w.heap.size ≤ gb240)); clear HB; have HB := n0_; have BK240 := n1_; have GW240 := n2_; have GE240 := n3_; clear n0_ n1_ n2_ n3_; clear hb hbox hg; have hcz18_0 : w17.cell? ⟨gb240, 0, none⟩ = some (.string a0_0) := (blk_cell BK240.out 0).trans rfl; have hcz18_1 : w17.cell? ⟨gb240, 1, none⟩ = some (.slice A0_1 l0_1.length c0_1) := (blk_cell BK240.out 1).trans rfl; have hcz18_2 : w17.cell? ⟨gb240, 2, none⟩ = some (.slice A0_2 l0_2.length c0_2) := (blk_cell BK240.out 2).trans rfl; have hcz18_3 : w17.cell? ⟨gb240, 3, none⟩ = some (.slice A0_3 l0_3.length c0_3) := (blk_cell BK240.out 3).trans rfl; have hfz18_0 := blk_frozen BK240.out 0; have hfz18_1 := blk_frozen BK240.out 1; have hfz18_2 := blk_frozen BK240.out 2; have hfz18_3 := blk_frozen BK240.out 3) | (go_at_call 27; (with_reducible refine (objf_symbols.calls _ _ l0_2 (a0_0.size : Int) (l0_1.length : Int) true _ ?side1 ?side2 A8.out).mono ?_); (case side1 => repeat (first | exact (Kd.C_below HR0_2.out HB.out) | (with_reducible refine Kd.C_alloc ?_ _) | (with_reducible refine Kd.C_drewN ?_ _) | (with_reducible refine Kd.C_drew ?_))); (case side2 => exact HC0_2.out); rintro e w19 ⟨rfl, hb⟩; have n0_ := Aside0.mk (blk_below (g := gb240) (o := .cells #[.string a0_0, .slice A0_1 l0_1.length c0_1, .slice A0_2 l0_2.length c0_2, .slice A0_3 l0_3.length c0_3] 26 (0, 0)) (by (with_reducible repeat (first | refine blk_drewN ?_ _ | refine blk_drew ?_ | refine blk_alloc ?_ _)); exact BK240.out) hb); have n1_ := Aside0.mk (below_step (by repeat (first | (with_reducible first | exact HB.out | apply below_alloc | apply pw_below_drewN | apply below_drew1 | refine below_set ?_ GE240.out) | exact HB.out)) hb); clear BK240; clear HB; have BK240 := n0_; have HB := n1_; clear n0_ n1_; (try clear hb); (try clear hb2); (try clear hk); (try clear hi); have hcz20_0 : w19.cell? ⟨gb240, 0, none⟩ = some (.string a0_0) := (blk_cell BK240.out 0).trans rfl; have hcz20_1 : w19.cell? ⟨gb240, 1, none⟩ = some (.slice A0_1 l0_1.length c0_1) := (blk_cell BK240.out 1).trans rfl; have hcz20_2 : w19.cell? ⟨gb240, 2, none⟩ = some (.slice A0_2 l0_2.length c0_2) := (blk_cell BK240.out 2).trans rfl; have hcz20_3 : w19.cell? ⟨gb240, 3, none⟩ = some (.slice A0_3 l0_3.length c0_3) := (blk_cell BK240.out 3).trans rfl; have hfz20_0 := blk_frozen BK240.out 0; have hfz20_1 := blk_frozen BK240.out 1; have hfz20_2 := blk_frozen BK240.out 2; have hfz20_3 := blk_frozen BK240.out 3) | (go_at_call 28; (with_reducible refine (objf_relocations.calls k _ _ l0_3 (a0_0.size : Int) false _ ?side1 ?side2 A10.out).mono ?_); (case side1 => repeat (first | exact (Kd.C_below HR0_3.out HB.out) | (with_reducible refine Kd.C_alloc ?_ _) | (with_reducible refine Kd.C_drewN ?_ _) | (with_reducible refine Kd.C_drew ?_))); (case side2 => exact HC0_3.out); rintro e w21 ⟨rfl, hb⟩; have n0_ := Aside0.mk (blk_below (g := gb240) (o := .cells #[.string a0_0, .slice A0_1 l0_1.length c0_1, .slice A0_2 l0_2.length c0_2, .slice A0_3 l0_3.length c0_3] 26 (0, 0)) (by (with_reducible repeat (first | refine blk_drewN ?_ _ | refine blk_drew ?_ | refine blk_alloc ?_ _)); exact BK240.out) hb); have n1_ := Aside0.mk (below_step (by repeat (first | (with_reducible first | exact HB.out | apply below_alloc | apply pw_below_drewN | apply below_drew1 | refine below_set ?_ GE240.out) | exact HB.out)) hb); clear BK240; clear HB; have BK240 := n0_; have HB := n1_; clear n0_ n1_; (try clear hb); (try clear hb2); (try clear hk); (try clear hi)))
          go_ret
          exact ⟨by first | rfl | (simp [errW_none, errW_some] <;> rfl) | (simp [*, errW_none, errW_some] <;> rfl), by repeat (first | (with_reducible first | exact HB.out | apply below_alloc | apply pw_below_drewN | apply below_drew1 | refine below_set ?_ GE240.out) | exact HB.out)⟩
      · replace c9 := Bool.eq_false_iff.mpr c9
        subst c9
        have H1 : (some 1) = some r := by rw [if_neg (show ¬ (false = true) by decide)] at H; exact H
        clear H
        have H := H1
        clear H1
        obtain rfl := Option.some.inj H
        go_enter Try.func13, Try.ntmps13
        go_wp2_with (first | ((with_reducible refine gate_dst (N := 1) rfl ?_); (try (refine gate_guard (by rfl) ?_; dsimp only)); refine box_event ?hg (N := 1) ?hd (cs := #[.string a0_0, .slice A0_1 l0_1.length c0_1, .slice A0_2 l0_2.length c0_2, .slice A0_3 l0_3.length c0_3]) (t := 26) ?hr ?_; (case hd => rfl); (case hg => rfl); (case hr => first | (go_simp; done) | (go_simp; rfl)); intro gb240 hg w22 hbox hb; have n0_ := Aside0.mk (below_step (by repeat (first | (with_reducible first | exact HB.out | apply below_alloc | apply pw_below_drewN | apply below_drew1) | exact HB.out)) hb); have n1_ := Aside0.mk (hbox); have n2_ := Aside0.mk ((by rw [hg]; exact (below_size (by repeat (first | (with_reducible first | exact HB.out | apply below_alloc | apply pw_below_drewN | apply below_drew1) | exact HB.out))) : w.heap.size ≤ gb240)); have n3_ := Aside0.mk ((by rw [hg]; exact (below_size (by repeat (first | (with_reducible first | exact HB.out | apply below_alloc | apply pw_below_drewN | apply below_drew1) | exact HB.out))) : w.heap.size ≤ gb240)); clear HB; have HB := n0_; have BK240 := n1_; have GW240 := n2_; have GE240 := n3_; clear n0_ n1_ n2_ n3_; clear hb hbox hg; have hcz23_0 : w22.cell? ⟨gb240, 0, none⟩ = some (.string a0_0) := (blk_cell BK240.out 0).trans rfl; have hcz23_1 : w22.cell? ⟨gb240, 1, none⟩ = some (.slice A0_1 l0_1.length c0_1) := (blk_cell BK240.out 1).trans rfl; have hcz23_2 : w22.cell? ⟨gb240, 2, none⟩ = some (.slice A0_2 l0_2.length c0_2) := (blk_cell BK240.out 2).trans rfl; have hcz23_3 : w22.cell? ⟨gb240, 3, none⟩ = some (.slice A0_3 l0_3.length c0_3) := (blk_cell BK240.out 3).trans rfl; have hfz23_0 := blk_frozen BK240.out 0; have hfz23_1 := blk_frozen BK240.out 1; have hfz23_2 := blk_frozen BK240.out 2; have hfz23_3 := blk_frozen BK240.out 3) | (go_at_call 27; (with_reducible refine (objf_symbols.calls _ _ l0_2 (a0_0.size : Int) (l0_1.length : Int) false _ ?side1 ?side2 A8.out).mono ?_); (case side1 => repeat (first | exact (Kd.C_below HR0_2.out HB.out) | (with_reducible refine Kd.C_alloc ?_ _) | (with_reducible refine Kd.C_drewN ?_ _) | (with_reducible refine Kd.C_drew ?_))); (case side2 => exact HC0_2.out); rintro e w24 ⟨rfl, hb⟩; have n0_ := Aside0.mk (blk_below (g := gb240) (o := .cells #[.string a0_0, .slice A0_1 l0_1.length c0_1, .slice A0_2 l0_2.length c0_2, .slice A0_3 l0_3.length c0_3] 26 (0, 0)) (by (with_reducible repeat (first | refine blk_drewN ?_ _ | refine blk_drew ?_ | refine blk_alloc ?_ _)); exact BK240.out) hb); have n1_ := Aside0.mk (below_step (by repeat (first | (with_reducible first | exact HB.out | apply below_alloc | apply pw_below_drewN | apply below_drew1 | refine below_set ?_ GE240.out) | exact HB.out)) hb); clear BK240; clear HB; have BK240 := n0_; have HB := n1_; clear n0_ n1_; (try clear hb); (try clear hb2); (try clear hk); (try clear hi)))
        go_ret
        exact ⟨by first | rfl | (simp [errW_none, errW_some] <;> rfl) | (simp [*, errW_none, errW_some] <;> rfl), by repeat (first | (with_reducible first | exact HB.out | apply below_alloc | apply pw_below_drewN | apply below_drew1 | refine below_set ?_ GE240.out) | exact HB.out)⟩

end Go.Proofs.Ytilmndkbloodbaa.M

/-
  Layer 6, plain: whether an object may be, as the program tells it (objf.Check), said by plain functions on lists. Conditions: lengths below 2^63.
-/
namespace Go.Proofs.Ytilmndkbloodbaa.Obj
open Go.RowKit Go.Proofs.Ytilmndkbloodbaa.M Go.Proofs.Ytilmndkbloodbaa.Num Go.Proofs.YtilmndkbloodbaaW.PrintWords Go.Proofs.YtilmndkbloodbaaW.PrintLast
def named (s : ByteArray) : Prop := 0 < s.size ∧ s.size ≤ 28
instance (s : ByteArray) : Decidable (named s) := by unfold named; exact inferInstance
def relGood (code free : Int) (r : S43) : Prop :=
  named r.f2 ∧ free ≤ r.f0 ∧ r.f0 ≤ code - 4 ∧ ((r.f1 = 1 ∧ r.f3 = 0) ∨ (r.f1 = 2 ∧ -2147483648 ≤ r.f3 ∧ r.f3 ≤ 2147483647))
instance (code free : Int) (r : S43) : Decidable (relGood code free r) := by unfold relGood; exact inferInstance
def relsOk (code : Int) : Int → List S43 → Bool
  | _, [] => true
  | free, r :: rs => decide (relGood code free r) && relsOk code (r.f0 + 4) rs
def symsOk (code data : Int) (l : List S41) : Bool := l.all (symGood code data) && decide (M.distinct (symNames l) = l.length) && decide (l.length ≤ 1000)
/-- May an object be? -/
def may (code : ByteArray) (data : List Int) (syms : List S41) (rels : List S43) : Bool :=
  decide (code.size ≤ 65536) && decide (data.length ≤ 4096) && symsOk code.size data.length syms && relsOk code.size 0 rels && decide (rels.length ≤ 8000)
theorem rd_SR (l : List S43) (i : Nat) (h : i < l.length) : rd_T43 l (i : Int) = l[i] := by
  simp [rd_T43, List.getD_eq_getElem?_getD, List.getElem?_eq_getElem h]
theorem isName_f (s : ByteArray) : objf_isName.f s = some (decide (named s)) := by
  unfold objf_isName.f
  by_cases h : (s.size : Int) > 0
  · rw [if_pos h]
    congr 1
    exact decide_eq_decide.mpr ⟨fun h' => ⟨by omega, by omega⟩, fun h' => by have := h'.2; omega⟩
  · rw [if_neg h]
    congr 1
    exact (decide_eq_false (fun h' : named s => h (by have := h'.1; omega))).symm
theorem rel_l0 (l : List S43) (code : Int) (h0 : 0 ≤ code) (h1 : code ≤ 65536) (hm : l.length ≤ 9223372036854775807) : ∀ (d k i : Nat) (free : Int), l.length - i = d → i ≤ l.length → 0 ≤ free → 2 * d + 1 < k →
    objf_relocations.l0 k l code free l (l.length : Int) (i : Int) = some (relsOk code free (l.drop i) && decide (l.length ≤ 8000)) := by
  intro d
  induction d with
  | zero =>
    intro k i free hd hi hf hk
    obtain ⟨k, rfl⟩ : ∃ m, k = m + 1 := ⟨k - 1, by omega⟩
    obtain rfl : i = l.length := by omega
    simp only [objf_relocations.l0]
    rw [if_neg (by omega), List.drop_length]
    simp only [relsOk, Bool.true_and]
    congr 1
    rw [Bool.eq_iff_iff]
    simp
    omega
  | succ d ih =>
    intro k i free hd hi hf hk
    obtain ⟨k, rfl⟩ : ∃ m, k = m + 2 := ⟨k - 2, by omega⟩
    have hlt : i < l.length := by omega
    have hs := ih k (i + 1)
    have hw : wrap64 ((i : Int) + 1) = ((i + 1 : Nat) : Int) := by unfold wrap64; omega
    have hw4 : wrap64 (code - 4) = code - 4 := by unfold wrap64; omega
    simp only [objf_relocations.l0]
    rw [if_pos (by omega), if_pos (by omega), if_pos (by omega), rd_SR l i hlt, List.drop_eq_getElem_cons hlt]
    generalize l[i] = r
    obtain ⟨f0, f1, f2, f3⟩ := r
    simp only [isName_f, Option.bind_some, relsOk, relGood]
    by_cases hn : named f2
    · simp only [hn, decide_true, if_true, hw4, true_and]
      by_cases c1 : f0 < free
      · rw [if_pos c1]
        simp only [objf_relocations.j1, if_true]
        simp [show ¬ free ≤ f0 by omega]
      · rw [if_neg c1]
        by_cases c2 : f0 > code - 4
        · simp only [objf_relocations.j1, c2, decide_true, if_true]
          simp [show ¬ f0 ≤ code - 4 by omega]
        · have hw0 : wrap64 (f0 + 4) = f0 + 4 := by unfold wrap64; omega
          have hs' := hs (f0 + 4) (by omega) (by omega) (by omega) (by omega)
          simp only [objf_relocations.j1, c2, decide_false, hw, hw0, hs']
          simp only [show free ≤ f0 by omega, show f0 ≤ code - 4 by omega, true_and]
          by_cases k1 : f1 = 1
          · subst k1
            by_cases a0 : f3 = 0
            · simp [a0]
            · simp [a0]
          · by_cases k2 : f1 = 2
            · subst k2
              by_cases a1 : f3 < -2147483648
              · simp [a1, show ¬ (-2147483648 ≤ f3) by omega]
              · by_cases a2 : f3 > 2147483647
                · simp [a1, a2, show ¬ (f3 ≤ 2147483647) by omega]
                · simp [a1, a2, show (-2147483648 ≤ f3) by omega, show (f3 ≤ 2147483647) by omega]
            · simp [k1, k2]
    · simp only [hn, decide_false, objf_relocations.j1, if_true]
      simp
theorem relocations_f (l : List S43) (code : Int) (h0 : 0 ≤ code) (h1 : code ≤ 65536) (hm : l.length ≤ 9223372036854775807) (k : Nat) (hk : 2 * l.length + 1 < k) :
    objf_relocations.f k l code = some (relsOk code 0 l && decide (l.length ≤ 8000)) := by
  unfold objf_relocations.f
  have := rel_l0 l code h0 h1 hm l.length k 0 0 (by omega) (by omega) (by omega) hk
  simpa using this
theorem check_f (code : ByteArray) (data : List Int) (syms : List S41) (rels : List S43) (hm : rels.length ≤ 9223372036854775807) (k : Nat) (hk : 2 * rels.length + 1 < k) :
    objf_Check.f k code data syms rels = some (if may code data syms rels = true then 0 else 1) := by
  unfold objf_Check.f may symsOk
  by_cases c1 : (code.size : Int) > 65536
  · rw [if_pos c1]
    simp [show ¬ code.size ≤ 65536 by omega]
  rw [if_neg c1]
  by_cases c2 : (data.length : Int) > 4096
  · rw [if_pos c2]
    simp [show ¬ data.length ≤ 4096 by omega]
  rw [if_neg c2]
  unfold objf_symbols.f
  simp only [Option.bind_some, show code.size ≤ 65536 by omega, show data.length ≤ 4096 by omega, decide_true, Bool.true_and]
  by_cases c3 : (syms.all (symGood (code.size : Int) (data.length : Int)) && decide (M.distinct (symNames syms) = syms.length) && decide (syms.length ≤ 1000)) = true
  · rw [if_pos c3, relocations_f rels _ (by omega) (by omega) hm k hk]
    simp only [c3, Bool.true_and, Option.bind_some]
    cases relsOk (code.size : Int) 0 rels <;> by_cases c4 : rels.length ≤ 8000 <;> simp [c4]
  · rw [if_neg c3]
    simp [Bool.eq_false_iff.mpr c3]
end Go.Proofs.Ytilmndkbloodbaa.Obj

/-
  Layer 6: reading, as plain functions of places; the document's Reader answers by them. Plain; no condition but that a text has at most 2^48 bytes.
-/
namespace Go.Proofs.Ytilmndkbloodbaa.M
open Go.RowKit Go.Proofs.YtilmndkbloodbaaW.PrintWords Go.Proofs.Ytilmndkbloodbaa.Num Go.Proofs.Ytilmndkbloodbaa.Seven Go.Proofs.Ytilmndkbloodbaa.Word1 Go.Proofs.Ytilmndkbloodbaa.Obj
set_option linter.unusedVariables false
set_option linter.unusedSimpArgs false
theorem takeR_ok {s : ByteArray} {p : Nat} (h : (takeR s p).2.2 = 0) (hp : p ≤ s.size) : ∃ q : Nat, (takeR s p).2.1 = (q : Int) ∧ p < q ∧ q ≤ s.size ∧ 0 ≤ (takeR s p).1 ∧ (takeR s p).1 < 18446744073709551616 ∧ (bytesOf s).drop p = putL (takeR s p).1.toNat ++ (bytesOf s).drop q := by
  unfold takeR at *
  rw [if_neg (by omega)] at *
  simp only [Int.toNat_natCast] at *
  cases e : takeL ((bytesOf s).drop p) 0 with
  | none => rw [e] at h; simp at h
  | some t =>
    rw [e] at h
    obtain ⟨v, n⟩ := t
    obtain ⟨h1, h2, h3, h4, h5⟩ := takeL_some _ _ _ ((bytesOf_Bs s).drop p) e
    rw [List.length_drop, bytesOf_length] at h2
    dsimp only at *
    refine ⟨p + n, by omega, by omega, by omega, h3, by simpa using h4, ?_⟩
    have := List.take_append_drop n ((bytesOf s).drop p)
    rw [h5, List.drop_drop] at this
    exact this.symm
def numA (s : ByteArray) (most : Int) (p : Nat) : Option (Int × Nat) := if (takeR s p).2.2 = 0 ∧ (takeR s p).1 ≤ most then some ((takeR s p).1, (takeR s p).2.1.toNat) else none
def bytesA (s : ByteArray) (n p : Nat) : Option (ByteArray × Nat) := if p + n ≤ s.size then some (s.extract p (p + n), p + n) else none
def oneA (s : ByteArray) (p : Nat) : Option (Int × Nat) := if p < s.size then some (bt s p, p + 1) else none
def wideA (s : ByteArray) (p : Nat) : Option (Int × Nat) := (bytesA s 8 p).map fun x => ((numR x.1).1, x.2)
def textA (s : ByteArray) (most : Int) (p : Nat) : Option (ByteArray × Nat) := (numA s most p).bind fun a => bytesA s a.1.toNat a.2
def manyA {α : Type} (q : Nat → Option (α × Nat)) : Nat → Nat → Option (List α × Nat)
  | 0, p => some ([], p)
  | n + 1, p => (q p).bind fun x => (manyA q n x.2).map fun y => (x.1 :: y.1, y.2)
def listA {α : Type} (s : ByteArray) (most : Int) (q : Nat → Option (α × Nat)) (p : Nat) : Option (List α × Nat) := (numA s most p).bind fun a => manyA q a.1.toNat a.2
def symA (s : ByteArray) (p : Nat) : Option (S41 × Nat) := (textA s 28 p).bind fun a => (oneA s a.2).bind fun b => (numA s 65536 b.2).bind fun c => some (⟨a.1, b.1, c.1⟩, c.2)
def frontA (s mark : ByteArray) (p : Nat) : Option (ByteArray × List Int × List S41 × Nat) := (bytesA s 4 p).bind fun m => if m.1 = mark then (textA s 65536 m.2).bind fun c => (listA s 4096 (wideA s) c.2).bind fun d => (listA s 1000 (symA s) d.2).bind fun y => some (c.1, d.1, y.1, y.2) else none
theorem numA_ok {s : ByteArray} {most : Int} {p : Nat} {n : Int} {q : Nat} (h : numA s most p = some (n, q)) (hp : p ≤ s.size) : p < q ∧ q ≤ s.size ∧ 0 ≤ n ∧ n ≤ most ∧ n < 18446744073709551616 ∧ (bytesOf s).drop p = putL n.toNat ++ (bytesOf s).drop q ∧ takeR s p = (n, (q : Int), 0) := by
  unfold numA at h
  split at h
  · next c =>
    obtain ⟨q', e, h1, h2, h3, h4, h5⟩ := takeR_ok c.1 hp
    obtain ⟨rfl, rfl⟩ := Prod.mk.inj (Option.some.inj h)
    rw [e, Int.toNat_natCast]
    exact ⟨h1, h2, h3, c.2, h4, h5, by rw [← e, ← c.1]⟩
  · cases h
theorem bytesA_ok {s : ByteArray} {n p : Nat} {x : ByteArray} {q : Nat} (h : bytesA s n p = some (x, q)) : q = p + n ∧ q ≤ s.size ∧ x = s.extract p (p + n) ∧ x.size = n := by
  unfold bytesA at h
  split at h
  · next c =>
    obtain ⟨rfl, rfl⟩ := Prod.mk.inj (Option.some.inj h)
    exact ⟨rfl, c, rfl, by simp [ByteArray.size_extract]; omega⟩
  · cases h
/-- A step of the document's Reader: what lacks is told by a mark that stays. -/
def rr {α : Type} (d : α) (o : Option (α × Nat)) (p : Nat) (bad : Bool) : α × Nat × Bool := if bad then (d, p, true) else match o with | some (n, q) => (n, q, false) | none => (d, p, true)
@[simp] theorem rr_true {α : Type} (d : α) (o : Option (α × Nat)) (p : Nat) : rr d o p true = (d, p, true) := rfl
@[simp] theorem rr_none {α : Type} (d : α) (p : Nat) : rr d none p false = (d, p, true) := rfl
@[simp] theorem rr_some {α : Type} (d : α) (x : α × Nat) (p : Nat) : rr d (some x) p false = (x.1, x.2, false) := rfl
def rNum (s : ByteArray) (most : Int) (p : Nat) (bad : Bool) : Int × Nat × Bool := rr 0 (numA s most p) p bad
def rBytes (s : ByteArray) (n p : Nat) (bad : Bool) : ByteArray × Nat × Bool := rr ⟨#[]⟩ (bytesA s n p) p bad
def rOne (s : ByteArray) (p : Nat) (bad : Bool) : Int × Nat × Bool := rr 0 (oneA s p) p bad
def rWide (s : ByteArray) (p : Nat) (bad : Bool) : Int × Nat × Bool := rr 0 (wideA s p) p bad
theorem rNum_ok {s : ByteArray} {most : Int} {p : Nat} {bad : Bool} (hm : 0 ≤ most) (hp : p ≤ s.size) : (rNum s most p bad).2.1 ≤ s.size ∧ 0 ≤ (rNum s most p bad).1 ∧ (rNum s most p bad).1 ≤ most := by
  unfold rNum
  cases bad
  · cases e : numA s most p with
    | none => exact ⟨hp, by simp, by simpa using hm⟩
    | some x => have := numA_ok (n := x.1) (q := x.2) (by rw [e]) hp; exact ⟨this.2.1, this.2.2.1, this.2.2.2.1⟩
  · exact ⟨hp, by simp, by simpa using hm⟩
theorem rBytes_ok {s : ByteArray} {n p : Nat} {bad : Bool} (hp : p ≤ s.size) : (rBytes s n p bad).2.1 ≤ s.size ∧ (rBytes s n p bad).1.size ≤ n := by
  unfold rBytes
  cases bad
  · cases e : bytesA s n p with
    | none => exact ⟨hp, Nat.zero_le _⟩
    | some x => have := bytesA_ok (x := x.1) (q := x.2) (by rw [e]); exact ⟨this.2.1, by simp; omega⟩
  · exact ⟨hp, Nat.zero_le _⟩
theorem oneA_ok {s : ByteArray} {p : Nat} {n : Int} {q : Nat} (h : oneA s p = some (n, q)) : q = p + 1 ∧ q ≤ s.size ∧ n = bt s p ∧ 0 ≤ n ∧ n < 256 := by
  unfold oneA at h
  split at h
  · next c =>
    obtain ⟨rfl, rfl⟩ := Prod.mk.inj (Option.some.inj h)
    have := bytesOf_Bs s (bt s p) (by have := bt_drop s p c; exact List.mem_of_mem_drop (by rw [this]; simp))
    exact ⟨rfl, by omega, rfl, this.1, this.2⟩
  · cases h
theorem rOne_ok {s : ByteArray} {p : Nat} {bad : Bool} (hp : p ≤ s.size) : (rOne s p bad).2.1 ≤ s.size := by
  unfold rOne
  cases bad
  · cases e : oneA s p with
    | none => exact hp
    | some x => exact (oneA_ok (n := x.1) (q := x.2) (by rw [e])).2.1
  · exact hp
theorem wideA_ok {s : ByteArray} {p : Nat} {n : Int} {q : Nat} (h : wideA s p = some (n, q)) : q = p + 8 ∧ q ≤ s.size ∧ n = (numR (s.extract p (p + 8))).1 ∧ (s.extract p (p + 8)).size = 8 := by
  unfold wideA at h
  obtain ⟨x, hx, e⟩ := Option.map_eq_some_iff.1 h
  obtain ⟨h1, h2, h3, h4⟩ := bytesA_ok (x := x.1) (q := x.2) (by rw [hx])
  obtain ⟨rfl, rfl⟩ := Prod.mk.inj e
  rw [← h3]
  exact ⟨h1, h2, rfl, h4⟩
theorem rWide_ok {s : ByteArray} {p : Nat} {bad : Bool} (hp : p ≤ s.size) : (rWide s p bad).2.1 ≤ s.size := by
  unfold rWide
  cases bad
  · cases e : wideA s p with
    | none => exact hp
    | some x => exact (wideA_ok (n := x.1) (q := x.2) (by rw [e])).2.1
  · exact hp
theorem rnumber_rr (s : ByteArray) (hs : s.size ≤ 281474976710656) (most : Int) (hm : 0 ≤ most) (hm2 : most < 9223372036854775808) (p : Nat) (hp : p ≤ s.size) (bad : Bool) (k : Nat) (hk : 36 < k) :
    cotterref06_Reader_Number.f k s p bad most = some ((rNum s most p bad).1, s, ((rNum s most p bad).2.1 : Int), (rNum s most p bad).2.2) := by
  unfold cotterref06_Reader_Number.f rNum
  rw [rtake_f s p hs k hk, Option.bind_some, wrap_u64_id hm (by omega)]
  cases bad
  · simp only [Bool.false_eq_true, if_false]
    by_cases h0 : (takeR s p).2.2 = 0
    · rw [if_pos h0]
      obtain ⟨q, e, h1, h2, h3, h4, h5⟩ := takeR_ok h0 hp
      unfold numA
      by_cases hc : (takeR s p).1 ≤ most
      · rw [if_neg (by omega), if_pos ⟨h0, hc⟩, wrap64_id (by omega) (by omega), e]
        simp
      · rw [if_pos (by omega), if_neg (by omega)]
        simp
    · rw [if_neg h0]
      unfold numA
      rw [if_neg (by omega)]
      simp
  · simp
theorem rbytes_rr (s : ByteArray) (hs : s.size ≤ 281474976710656) (n : Int) (hn : 0 ≤ n) (hn2 : n ≤ 281474976710656) (p : Nat) (hp : p ≤ s.size) (bad : Bool) :
    cotterref06_Reader_Bytes.f s p bad n = some ((rBytes s n.toNat p bad).1, s, ((rBytes s n.toNat p bad).2.1 : Int), (rBytes s n.toNat p bad).2.2) := by
  unfold cotterref06_Reader_Bytes.f rBytes bytesA
  cases bad
  · simp only [Bool.false_eq_true, if_false]
    rw [wrap64_id (n := (s.size : Int) - p) (by omega) (by omega)]
    by_cases hc : p + n.toNat ≤ s.size
    · rw [if_neg (by omega), if_pos hc, wrap64_id (n := (p : Int) + n) (by omega) (by omega), wrap64_id (n := (p : Int) + n - n) (by omega) (by omega), if_pos (by omega), if_pos (by omega), if_pos (by omega)]
      simp only [rr_some]
      rw [show ((p : Int) + n - n).toNat = p by omega, show ((p : Int) + n).toNat = p + n.toNat by omega, show ((p + n.toNat : Nat) : Int) = (p : Int) + n by omega]
    · rw [if_pos (by omega), if_neg hc]
      simp
  · simp
theorem toList_nil : (⟨#[]⟩ : ByteArray).toList = ([] : List UInt8) := by rw [ByteArray.toList_eq]
theorem extract_one (s : ByteArray) (p : Nat) (h : p + 1 ≤ s.size) : bt (s.extract p (p + 1)) 0 = bt s p := by
  have h1 := bt_drop s p h
  have h2 := bt_drop (s.extract p (p + 1)) 0 (by simp [ByteArray.size_extract]; omega)
  have h3 : bytesOf (s.extract p (p + 1)) = ((bytesOf s).drop p).take 1 := by
    simp [bytesOf, ByteArray.data_extract, List.map_take, List.map_drop]
  rw [h3, h1] at h2
  simpa using h2.symm
theorem rone_rr (s : ByteArray) (hs : s.size ≤ 281474976710656) (p : Nat) (hp : p ≤ s.size) (bad : Bool) :
    cotterref06_Reader_One.f s p bad = some ((rOne s p bad).1, s, ((rOne s p bad).2.1 : Int), (rOne s p bad).2.2) := by
  unfold cotterref06_Reader_One.f
  rw [rbytes_rr s hs 1 (by omega) (by omega) p hp bad, Option.bind_some, show (1 : Int).toNat = 1 from rfl]
  have lacks : ∀ b, rBytes s 1 p b = (⟨#[]⟩, p, true) → rOne s p b = (0, p, true) → (if (rBytes s 1 p b).1.toList = ([] : List UInt8) then some ((0 : Int), s, ((rBytes s 1 p b).2.1 : Int), (rBytes s 1 p b).2.2) else if 0 < ((rBytes s 1 p b).1.size : Int) then some (wrap64 (bt (rBytes s 1 p b).1 0), s, ((rBytes s 1 p b).2.1 : Int), (rBytes s 1 p b).2.2) else none) = some ((rOne s p b).1, s, ((rOne s p b).2.1 : Int), (rOne s p b).2.2) := by
    intro b e1 e2
    rw [e1, e2]
    dsimp only
    rw [if_pos toList_nil]
  cases bad
  · by_cases hc : p + 1 ≤ s.size
    · have hz : (s.extract p (p + 1)).size = 1 := by simp [ByteArray.size_extract]; omega
      have hne : ¬ (s.extract p (p + 1)).toList = ([] : List UInt8) := by
        intro e
        have h0 : (s.extract p (p + 1)).data.toList.length = 1 := by rw [data_length, hz]
        rw [← ByteArray.toList_eq, e] at h0
        cases h0
      have hr := oneA_ok (s := s) (p := p) (n := bt s p) (q := p + 1) (by unfold oneA; rw [if_pos (show p < s.size from hc)])
      have e1 : rBytes s 1 p false = (s.extract p (p + 1), p + 1, false) := by unfold rBytes bytesA; rw [if_pos hc]; rfl
      have e2 : rOne s p false = (bt s p, p + 1, false) := by unfold rOne oneA; rw [if_pos (show p < s.size from hc)]; rfl
      rw [e1, e2]
      dsimp only
      rw [if_neg hne, if_pos (by omega), extract_one s p hc, wrap64_id (by omega) (by omega)]
    · refine lacks false ?_ ?_
      · unfold rBytes bytesA; rw [if_neg hc]; rfl
      · unfold rOne oneA; rw [if_neg (show ¬ p < s.size from hc)]; rfl
  · exact lacks true rfl rfl
theorem numR_nil : (numR ⟨#[]⟩).1 = 0 := rfl
theorem rwide_rr (s : ByteArray) (hs : s.size ≤ 281474976710656) (p : Nat) (hp : p ≤ s.size) (bad : Bool) (k : Nat) (hk : 9 < k) :
    cotterref06_Reader_Wide.f k s p bad = some ((rWide s p bad).1, s, ((rWide s p bad).2.1 : Int), (rWide s p bad).2.2) := by
  unfold cotterref06_Reader_Wide.f rWide
  rw [rbytes_rr s hs 8 (by omega) (by omega) p hp bad, Option.bind_some]
  have hz := rBytes_ok (s := s) (n := 8) (p := p) (bad := bad) hp
  rw [show (8 : Int).toNat = 8 from rfl, rnumber_f _ (Nat.le_trans hz.2 (by omega)) k hk, Option.bind_some]
  unfold rBytes wideA
  cases bad
  · cases e : bytesA s 8 p with
    | none => simp [numR_nil]
    | some x => simp
  · simp [numR_nil]
def rSym (s : ByteArray) (p : Nat) : S41 × Nat × Bool :=
  let a := rNum s 28 p false; let b := rBytes s a.1.toNat a.2.1 a.2.2; let c := rOne s b.2.1 b.2.2; let d := rNum s 65536 c.2.1 c.2.2; (⟨b.1, c.1, d.1⟩, d.2.1, d.2.2)
theorem symA_r (s : ByteArray) (p : Nat) : symA s p = bif (rSym s p).2.2 then none else some ((rSym s p).1, (rSym s p).2.1) := by
  unfold symA rSym textA rNum rBytes rOne
  cases e1 : numA s 28 p with
  | none => simp
  | some a =>
    simp only [Option.bind_some, rr_some]
    cases e2 : bytesA s a.1.toNat a.2 with
    | none => simp
    | some b =>
      simp only [Option.bind_some, rr_some]
      cases e3 : oneA s b.2 with
      | none => simp
      | some c =>
        simp only [Option.bind_some, rr_some]
        cases e4 : numA s 65536 c.2 with
        | none => simp
        | some d => simp
theorem rSym_ok {s : ByteArray} {p : Nat} (hp : p ≤ s.size) : (rSym s p).2.1 ≤ s.size := by
  unfold rSym
  exact (rNum_ok (by omega) (rOne_ok (rBytes_ok (rNum_ok (by omega) hp).1).1)).1
/-- A round of a reading loop. -/
theorem many_step {α : Type} {q : Nat → Option (α × Nat)} {p p' : Nat} {x : α} {bad : Bool} (h : q p = bif bad then none else some (x, p')) (m : Nat) (acc : List α) :
    ((manyA q (m + 1) p).map fun y => (acc ++ y.1, y.2)) = bif bad then none else ((manyA q m p').map fun y => ((acc ++ [x]) ++ y.1, y.2)) := by
  rw [manyA, h]
  cases bad
  · simp [Option.map_map, Function.comp_def]
  · simp
theorem front_l1 (s : ByteArray) (hs : s.size ≤ 281474976710656) (code : ByteArray) (data : List Int) : ∀ (m k : Nat) (n i : Int) (acc : List S41) (p : Nat) (bad : Bool), n = i + m → 0 ≤ i → i + m ≤ 1000 → acc.length + m ≤ 1000 → p ≤ s.size → 2 * m + 40 < k →
    ∃ (acc' : List S41) (p' : Nat) (bad' : Bool), cotterref06_Reader_Front.l1 k code n data acc i s p bad = some (code, data, acc', s, (p' : Int), bad') ∧ p' ≤ s.size ∧ acc'.length ≤ acc.length + m ∧
      (bif bad then none else (manyA (symA s) m p).map fun y => (acc ++ y.1, y.2)) = (bif bad' then none else some (acc', p')) := by
  intro m
  induction m with
  | zero =>
    intro k n i acc p bad hn hi hb hl hp hk
    match k, hk with
    | k + 2, hk =>
      refine ⟨acc, p, bad, ?_, hp, by omega, ?_⟩
      · unfold cotterref06_Reader_Front.l1 cotterref06_Reader_Front.j4
        rw [if_neg (by omega), if_neg (by simp)]
      · simp [manyA]
  | succ m ih =>
    intro k n i acc p bad hn hi hb hl hp hk
    match k, hk with
    | k + 2, hk =>
      cases bad with
      | true =>
        refine ⟨acc, p, true, ?_, hp, by omega, by simp⟩
        unfold cotterref06_Reader_Front.l1 cotterref06_Reader_Front.j4
        rw [if_pos (by omega), if_neg (by simp)]
      | false =>
        have b1 := rNum_ok (s := s) (most := 28) (p := p) (bad := false) (by omega) hp
        have b2 := rBytes_ok (s := s) (n := (rNum s 28 p false).1.toNat) (bad := (rNum s 28 p false).2.2) b1.1
        have b3 := rOne_ok (s := s) (bad := (rBytes s (rNum s 28 p false).1.toNat (rNum s 28 p false).2.1 (rNum s 28 p false).2.2).2.2) b2.1
        have b4 := rSym_ok hp
        obtain ⟨acc', p', bad', e, h1, h2, h3⟩ := ih k n (i + 1) (acc ++ [(rSym s p).1]) (rSym s p).2.1 (rSym s p).2.2 (by omega) (by omega) (by omega) (by simp; omega) b4 (by omega)
        refine ⟨acc', p', bad', ?_, h1, by simp at h2; omega, ?_⟩
        · unfold cotterref06_Reader_Front.l1 cotterref06_Reader_Front.j4
          rw [if_pos (by omega), if_pos (by simp), rnumber_rr s hs 28 (by omega) (by omega) p hp false k (by omega), Option.bind_some]
          dsimp only
          rw [rbytes_rr s hs _ b1.2.1 (by omega) _ b1.1, Option.bind_some]
          dsimp only
          rw [rone_rr s hs _ b2.1, Option.bind_some]
          dsimp only
          rw [rnumber_rr s hs 65536 (by omega) (by omega) _ b3 _ k (by omega), Option.bind_some]
          dsimp only
          rw [if_pos (by omega), wrap64_id (by omega) (by omega)]
          exact e
        · rw [← h3, cond_false]
          exact many_step (symA_r s p) m acc
theorem front_l0 (s : ByteArray) (hs : s.size ≤ 281474976710656) (code : ByteArray) : ∀ (m k : Nat) (n i : Int) (acc : List Int) (p : Nat) (bad : Bool), n = i + m → 0 ≤ i → i + m ≤ 4096 → acc.length + m ≤ 4096 → p ≤ s.size → m + 2100 < k →
    ∃ (acc' : List Int) (p' : Nat) (bad' : Bool) (k' : Nat), cotterref06_Reader_Front.l0 k code n acc i s p bad = cotterref06_Reader_Front.j2 k' code acc' s (p' : Int) bad' ∧ 2090 < k' ∧ p' ≤ s.size ∧ acc'.length ≤ acc.length + m ∧
      (bif bad then none else (manyA (wideA s) m p).map fun y => (acc ++ y.1, y.2)) = (bif bad' then none else some (acc', p')) := by
  intro m
  induction m with
  | zero =>
    intro k n i acc p bad hn hi hb hl hp hk
    match k, hk with
    | k + 1, hk =>
      refine ⟨acc, p, bad, k, ?_, by omega, hp, by omega, by simp [manyA]⟩
      rw [cotterref06_Reader_Front.l0, if_neg (by omega)]
  | succ m ih =>
    intro k n i acc p bad hn hi hb hl hp hk
    match k, hk with
    | k + 1, hk =>
      cases bad with
      | true =>
        refine ⟨acc, p, true, k, ?_, by omega, hp, by omega, by simp⟩
        rw [cotterref06_Reader_Front.l0, if_pos (by omega), if_pos rfl]
      | false =>
        have b1 := rWide_ok (s := s) (bad := false) hp
        obtain ⟨acc', p', bad', k', e, h0, h1, h2, h3⟩ := ih k n (i + 1) (acc ++ [(rWide s p false).1]) (rWide s p false).2.1 (rWide s p false).2.2 (by omega) (by omega) (by omega) (by simp; omega) b1 (by omega)
        refine ⟨acc', p', bad', k', ?_, h0, h1, by simp at h2; omega, ?_⟩
        · rw [cotterref06_Reader_Front.l0, if_pos (by omega), if_neg (by simp), rwide_rr s hs p hp false k (by omega), Option.bind_some]
          dsimp only
          rw [if_pos (by omega), wrap64_id (by omega) (by omega)]
          exact e
        · rw [← h3, cond_false]
          refine many_step (x := (rWide s p false).1) (p' := (rWide s p false).2.1) ?_ m acc
          unfold rWide
          cases wideA s p <;> simp
theorem toList_inj {a b : ByteArray} (h : a.toList = b.toList) : a = b := by
  rw [ByteArray.toList_eq, ByteArray.toList_eq] at h
  exact ByteArray.ext (Array.toList_inj.mp h)
theorem front_f (s : ByteArray) (hs : s.size ≤ 281474976710656) (mark : ByteArray) (k : Nat) (hk : 7000 < k) : ∃ (code : ByteArray) (data : List Int) (syms : List S41) (p : Nat) (bad : Bool), cotterref06_Reader_Front.f k s 0 false mark = some (code, data, syms, s, (p : Int), bad) ∧ p ≤ s.size ∧ data.length ≤ 4096 ∧ syms.length ≤ 1000 ∧
    frontA s mark 0 = (bif bad then none else some (code, data, syms, p)) := by
  have main : ∀ (p : Nat) (bad : Bool), p ≤ s.size → ∃ (code : ByteArray) (data : List Int) (syms : List S41) (p' : Nat) (bad' : Bool), cotterref06_Reader_Front.j0 k s p bad = some (code, data, syms, s, (p' : Int), bad') ∧ p' ≤ s.size ∧ data.length ≤ 4096 ∧ syms.length ≤ 1000 ∧
      (bif bad then none else (textA s 65536 p).bind fun c => (listA s 4096 (wideA s) c.2).bind fun d => (listA s 1000 (symA s) d.2).bind fun y => some (c.1, d.1, y.1, y.2)) = (bif bad' then none else some (code, data, syms, p')) := by
    intro p bad hp
    match k, hk with
    | k + 1, hk =>
      rw [cotterref06_Reader_Front.j0, rnumber_rr s hs 65536 (by omega) (by omega) p hp bad k (by omega), Option.bind_some]
      dsimp only
      have b1 := rNum_ok (s := s) (most := 65536) (p := p) (bad := bad) (by omega) hp
      generalize hn1 : rNum s 65536 p bad = n1 at b1 ⊢
      rw [rbytes_rr s hs _ b1.2.1 (by omega) _ b1.1, Option.bind_some]
      dsimp only
      have b2 := rBytes_ok (s := s) (n := n1.1.toNat) (bad := n1.2.2) b1.1
      generalize hn2 : rBytes s n1.1.toNat n1.2.1 n1.2.2 = n2 at b2 ⊢
      rw [rnumber_rr s hs 4096 (by omega) (by omega) _ b2.1 _ k (by omega), Option.bind_some]
      dsimp only
      have b3 := rNum_ok (s := s) (most := 4096) (bad := n2.2.2) (by omega) b2.1
      generalize hn3 : rNum s 4096 n2.2.1 n2.2.2 = n3 at b3 ⊢
      obtain ⟨dl, p4, bad4, k4, e4, hk4, hp4, hl4, h4⟩ := front_l0 s hs n2.1 n3.1.toNat k n3.1 0 [] n3.2.1 n3.2.2 (by omega) (by omega) (by omega) (by simp; omega) b3.1 (by omega)
      rw [e4]
      match k4, hk4 with
      | k4 + 1, hk4 =>
        rw [cotterref06_Reader_Front.j2, rnumber_rr s hs 1000 (by omega) (by omega) _ hp4 _ k4 (by omega), Option.bind_some]
        dsimp only
        have b5 := rNum_ok (s := s) (most := 1000) (bad := bad4) (by omega) hp4
        generalize hn5 : rNum s 1000 p4 bad4 = n5 at b5 ⊢
        obtain ⟨sl, p6, bad6, e6, hp6, hl6, h6⟩ := front_l1 s hs n2.1 dl n5.1.toNat k4 n5.1 0 [] n5.2.1 n5.2.2 (by omega) (by omega) (by omega) (by simp; omega) b5.1 (by omega)
        refine ⟨n2.1, dl, sl, p6, bad6, e6, hp6, by simp at hl4; omega, by simp at hl6; omega, ?_⟩
        simp only [List.nil_append] at h4 h6
        cases bad with
        | true =>
          obtain rfl : n1 = (0, p, true) := by rw [← hn1]; rfl
          obtain rfl : n2 = (⟨#[]⟩, p, true) := by rw [← hn2]; rfl
          obtain rfl : n3 = (0, p, true) := by rw [← hn3]; rfl
          obtain rfl : bad4 = true := by cases bad4 <;> simp_all
          obtain rfl : n5 = (0, p4, true) := by rw [← hn5]; rfl
          obtain rfl : bad6 = true := by cases bad6 <;> simp_all
          simp
        | false =>
          rw [cond_false]
          unfold textA listA
          unfold rNum at hn1 hn3 hn5
          unfold rBytes at hn2
          cases e1 : numA s 65536 p with
          | none =>
            rw [e1] at hn1
            obtain rfl : n1 = (0, p, true) := by rw [← hn1]; rfl
            obtain rfl : n2 = (⟨#[]⟩, p, true) := by rw [← hn2]; rfl
            obtain rfl : n3 = (0, p, true) := by rw [← hn3]; rfl
            obtain rfl : bad4 = true := by cases bad4 <;> simp_all
            obtain rfl : n5 = (0, p4, true) := by rw [← hn5]; rfl
            obtain rfl : bad6 = true := by cases bad6 <;> simp_all
            simp
          | some a1 =>
            rw [e1] at hn1
            obtain rfl : n1 = (a1.1, a1.2, false) := by rw [← hn1]; rfl
            simp only [Option.bind_some]
            cases e2 : bytesA s a1.1.toNat a1.2 with
            | none =>
              rw [e2] at hn2
              obtain rfl : n2 = (⟨#[]⟩, a1.2, true) := by rw [← hn2]; rfl
              obtain rfl : n3 = (0, a1.2, true) := by rw [← hn3]; rfl
              obtain rfl : bad4 = true := by cases bad4 <;> simp_all
              obtain rfl : n5 = (0, p4, true) := by rw [← hn5]; rfl
              obtain rfl : bad6 = true := by cases bad6 <;> simp_all
              simp
            | some a2 =>
              rw [e2] at hn2
              obtain rfl : n2 = (a2.1, a2.2, false) := by rw [← hn2]; rfl
              simp only [Option.bind_some]
              cases e3 : numA s 4096 a2.2 with
              | none =>
                simp only [e3] at hn3
                obtain rfl : n3 = (0, a2.2, true) := by rw [← hn3]; rfl
                obtain rfl : bad4 = true := by cases bad4 <;> simp_all
                obtain rfl : n5 = (0, p4, true) := by rw [← hn5]; rfl
                obtain rfl : bad6 = true := by cases bad6 <;> simp_all
                simp
              | some a3 =>
                simp only [e3] at hn3
                obtain rfl : n3 = (a3.1, a3.2, false) := by rw [← hn3]; rfl
                simp only [Option.bind_some]
                have h4' : manyA (wideA s) a3.1.toNat a3.2 = bif bad4 then none else some (dl, p4) := by
                  rw [← h4]; simp
                rw [h4']
                cases bad4 with
                | true =>
                  obtain rfl : n5 = (0, p4, true) := by rw [← hn5]; rfl
                  obtain rfl : bad6 = true := by cases bad6 <;> simp_all
                  simp
                | false =>
                  simp only [cond_false, Option.bind_some]
                  cases e5 : numA s 1000 p4 with
                  | none =>
                    simp only [e5] at hn5
                    obtain rfl : n5 = (0, p4, true) := by rw [← hn5]; rfl
                    obtain rfl : bad6 = true := by cases bad6 <;> simp_all
                    simp
                  | some a5 =>
                    simp only [e5] at hn5
                    obtain rfl : n5 = (a5.1, a5.2, false) := by rw [← hn5]; rfl
                    have h6' : manyA (symA s) a5.1.toNat a5.2 = bif bad6 then none else some (sl, p6) := by
                      rw [← h6]; simp
                    rw [Option.bind_some, h6']
                    cases bad6 <;> simp
  unfold cotterref06_Reader_Front.f frontA
  rw [show (0 : Int) = ((0 : Nat) : Int) from rfl, rbytes_rr s hs 4 (by omega) (by omega) 0 (by omega) false, Option.bind_some]
  dsimp only
  have b0 := rBytes_ok (s := s) (n := 4) (p := 0) (bad := false) (by omega)
  rw [show (4 : Int).toNat = 4 from rfl]
  by_cases hm : (rBytes s 4 0 false).1.toList = mark.toList
  · rw [if_pos hm]
    obtain ⟨code, data, syms, p, bad, e, h1, h2, h3, h4⟩ := main (rBytes s 4 0 false).2.1 (rBytes s 4 0 false).2.2 b0.1
    refine ⟨code, data, syms, p, bad, e, h1, h2, h3, ?_⟩
    rw [← h4]
    unfold rBytes at hm ⊢
    cases e0 : bytesA s 4 0 with
    | none => simp
    | some x =>
      rw [e0] at hm
      simp only [rr_some] at hm
      simp [toList_inj hm]
  · rw [if_neg hm]
    obtain ⟨code, data, syms, p, bad, e, h1, h2, h3, h4⟩ := main (rBytes s 4 0 false).2.1 true b0.1
    refine ⟨code, data, syms, p, bad, e, h1, h2, h3, ?_⟩
    rw [← h4]
    unfold rBytes at hm
    cases e0 : bytesA s 4 0 with
    | none => simp
    | some x =>
      rw [e0] at hm
      simp only [rr_some] at hm
      rw [Option.bind_some, if_neg (fun h => hm (by rw [h]))]
      simp
end Go.Proofs.Ytilmndkbloodbaa.M

/-
  Layer 6: the memory of a reading under way (an object's block, one more block, the object's rows), and what an object's form reads as. Plain words.
-/
namespace Go.Proofs.Ytilmndkbloodbaa.M
open Go.RowKit Go.Proofs.YtilmndkbloodbaaW.PrintWords Go.Proofs.Ytilmndkbloodbaa.Num Go.Proofs.Ytilmndkbloodbaa.Seven Go.Proofs.Ytilmndkbloodbaa.Word1 Go.Proofs.Ytilmndkbloodbaa.Obj
set_option linter.unusedVariables false
set_option linter.unusedSimpArgs false
def relA (s : ByteArray) (p : Nat) : Option (S43 × Nat) := (numA s 65536 p).bind fun a => (oneA s a.2).bind fun b => (textA s 28 b.2).bind fun c => (wideA s c.2).bind fun d => some (⟨a.1, b.1, c.1, d.1⟩, d.2)
def rRel (s : ByteArray) (p : Nat) : S43 × Nat × Bool :=
  let a := rNum s 65536 p false; let b := rOne s a.2.1 a.2.2; let c := rNum s 28 b.2.1 b.2.2; let d := rBytes s c.1.toNat c.2.1 c.2.2; let e := rWide s d.2.1 d.2.2; (⟨a.1, b.1, d.1, e.1⟩, e.2.1, e.2.2)
theorem relA_r (s : ByteArray) (p : Nat) : relA s p = bif (rRel s p).2.2 then none else some ((rRel s p).1, (rRel s p).2.1) := by
  unfold relA rRel textA rNum rBytes rOne rWide
  cases e1 : numA s 65536 p with
  | none => simp
  | some a =>
    simp only [Option.bind_some, rr_some]
    cases e2 : oneA s a.2 with
    | none => simp
    | some b =>
      simp only [Option.bind_some, rr_some]
      cases e3 : numA s 28 b.2 with
      | none => simp
      | some c =>
        simp only [Option.bind_some, rr_some]
        cases e4 : bytesA s c.1.toNat c.2 with
        | none => simp
        | some d =>
          simp only [Option.bind_some, rr_some]
          cases e5 : wideA s d.2 with
          | none => simp
          | some e => simp
abbrev COT1s : ByteArray := ⟨#[67, 79, 84, 49]⟩
/-- The object of a text's bytes. -/
def readA (s : ByteArray) : Option (ByteArray × List Int × List S41 × List S43) := (frontA s COT1s 0).bind fun a => (listA s 8000 (relA s) a.2.2.2).bind fun r =>
  if r.2 = s.size ∧ may a.1 a.2.1 a.2.2.1 r.1 = true then some (a.1, a.2.1, a.2.2.1, r.1) else none
def readF (s : ByteArray) : ByteArray × List Int × List S41 × List S43 × Int := match readA s with | some x => (x.1, x.2.1, x.2.2.1, x.2.2.2, 0) | none => (⟨#[]⟩, [], [], [], 9)
/-- The memory of a reading under way: the object's block h, one more block x, the object's rows; blocks from B on are none of them. -/
structure Held (w W : World) (B h x : Nat) (cs xs : Array Value) (xt : TypeId) (v1 : Value) (d : List Int) (v2 : Value) (y : List S41) (v3 : Value) (r : List S43) : Prop where
  below : Below w.heap.size w W
  obj : W.heap[h]? = some (.cells cs 26 (0, 0))
  more : W.heap[x]? = some (.cells xs xt (0, 0))
  r1 : Kd.R (Kd.int .i64) 2 W w.heap.size (fun k => k < B) v1 d
  r2 : Kd.R k41 41 W w.heap.size (fun k => k < B) v2 y
  r3 : Kd.R k43 43 W w.heap.size (fun k => k < B) v3 r
  lt : B ≤ W.heap.size
  hh : w.heap.size ≤ h ∧ h < B ∧ w.heap.size ≤ x ∧ x < B ∧ h ≠ x
  ht : xt ≠ 2 ∧ xt ≠ 41 ∧ xt ≠ 43
theorem mem_one {t q : Nat} {l : List Nat} (hl : l = []) (h : q ∈ t :: l) : q = t := by subst hl; simpa using h
section
variable {w W W' : World} {B h x : Nat} {cs xs : Array Value} {xt : TypeId} {v1 v2 v3 : Value} {d : List Int} {y : List S41} {r : List S43}
theorem Held.keep (H : Held w W B h x cs xs xt v1 d v2 y v3 r) {g gt : Nat} {gs : Array Value} (hk : KeepBut W W' g none) (hb : Below w.heap.size w W') (hgh : h ≠ g) (hgx : x ≠ g) (hg : W.heap[g]? = some (.cells gs gt (0, 0))) (hgt : gt ≠ 2 ∧ gt ≠ 41 ∧ gt ≠ 43) : Held w W' B h x cs xs xt v1 d v2 y v3 r where
  below := hb
  obj := hk.blk H.obj hgh (by simp)
  more := hk.blk H.more hgx (by simp)
  r1 := Kd.R_mono (Kd.R_keep (Kd.R_types H.r1 hg (fun q hq => by rw [mem_one rfl hq]; exact fun e => hgt.1 e.symm)) hk (fun _ h => h.2)) (fun _ h => h.1)
  r2 := Kd.R_mono (Kd.R_keep (Kd.R_types H.r2 hg (fun q hq => by rw [mem_one rfl hq]; exact fun e => hgt.2.1 e.symm)) hk (fun _ h => h.2)) (fun _ h => h.1)
  r3 := Kd.R_mono (Kd.R_keep (Kd.R_types H.r3 hg (fun q hq => by rw [mem_one rfl hq]; exact fun e => hgt.2.2 e.symm)) hk (fun _ h => h.2)) (fun _ h => h.1)
  lt := Nat.le_trans H.lt hk.1
  hh := H.hh
  ht := H.ht
theorem Held.next (H : Held w W B h x cs xs xt v1 d v2 y v3 r) (hb : Below W.heap.size W W') : Held w W' B h x cs xs xt v1 d v2 y v3 r where
  below := below_then H.below H.below.size hb
  obj := blk_below H.obj hb
  more := blk_below H.more hb
  r1 := Kd.R_below H.r1 hb
  r2 := Kd.R_below H.r2 hb
  r3 := Kd.R_below H.r3 hb
  lt := Nat.le_trans H.lt hb.size
  hh := H.hh
  ht := H.ht
theorem Held.far (H : Held w W B h x cs xs xt v1 d v2 y v3 r) {p : Addr} (hp : B ≤ p.block) (u : Value) : Held w (W.setCell p u) B h x cs xs xt v1 d v2 y v3 r where
  below := Below.setCell H.below (by have := H.hh; omega) u
  obj := blk_far H.obj (by have := H.hh; omega) u
  more := blk_far H.more (by have := H.hh; omega) u
  r1 := Kd.R_far H.r1 (fun k hk => by omega) u
  r2 := Kd.R_far H.r2 (fun k hk => by omega) u
  r3 := Kd.R_far H.r3 (fun k hk => by omega) u
  lt := by have := H.lt; simpa [World.setCell] using this
  hh := H.hh
  ht := H.ht
theorem Held.up (H : Held w W B h x cs xs xt v1 d v2 y v3 r) {B' : Nat} (hB : B ≤ B') (hB' : B' ≤ W.heap.size) : Held w W B' h x cs xs xt v1 d v2 y v3 r where
  below := H.below
  obj := H.obj
  more := H.more
  r1 := Kd.R_mono H.r1 (fun k hk => by omega)
  r2 := Kd.R_mono H.r2 (fun k hk => by omega)
  r3 := Kd.R_mono H.r3 (fun k hk => by omega)
  lt := hB'
  hh := by have := H.hh; omega
  ht := H.ht
theorem Held.put (H : Held w W B h x cs xs xt v1 d v2 y v3 r) {cs' : Array Value} (i : Nat) (u : Value) (e : cs.setIfInBounds i u = cs') : Held w (W.setCell ⟨h, i, none⟩ u) B h x cs' xs xt v1 d v2 y v3 r where
  below := Below.setCell H.below (by have := H.hh; simp; omega) u
  obj := blk_put H.obj i u e
  more := blk_far H.more (by have := H.hh; simp; omega) u
  r1 := Kd.R_mono (Kd.R_far (Kd.R_types H.r1 H.obj (fun q hq => by rw [mem_one rfl hq]; decide)) (fun _ h => h.2) u) (fun _ h => h.1)
  r2 := Kd.R_mono (Kd.R_far (Kd.R_types H.r2 H.obj (fun q hq => by rw [mem_one rfl hq]; decide)) (fun _ h => h.2) u) (fun _ h => h.1)
  r3 := Kd.R_mono (Kd.R_far (Kd.R_types H.r3 H.obj (fun q hq => by rw [mem_one rfl hq]; decide)) (fun _ h => h.2) u) (fun _ h => h.1)
  lt := by have := H.lt; simpa [World.setCell] using this
  hh := H.hh
  ht := H.ht
theorem Held.putX (H : Held w W B h x cs xs xt v1 d v2 y v3 r) {xs' : Array Value} (i : Nat) (u : Value) (e : xs.setIfInBounds i u = xs') : Held w (W.setCell ⟨x, i, none⟩ u) B h x cs xs' xt v1 d v2 y v3 r where
  below := Below.setCell H.below (by have := H.hh; simp; omega) u
  obj := blk_far H.obj (by have := H.hh; simp; omega) u
  more := blk_put H.more i u e
  r1 := Kd.R_mono (Kd.R_far (Kd.R_types H.r1 H.more (fun q hq => by rw [mem_one rfl hq]; exact fun e => H.ht.1 e.symm)) (fun _ h => h.2) u) (fun _ h => h.1)
  r2 := Kd.R_mono (Kd.R_far (Kd.R_types H.r2 H.more (fun q hq => by rw [mem_one rfl hq]; exact fun e => H.ht.2.1 e.symm)) (fun _ h => h.2) u) (fun _ h => h.1)
  r3 := Kd.R_mono (Kd.R_far (Kd.R_types H.r3 H.more (fun q hq => by rw [mem_one rfl hq]; exact fun e => H.ht.2.2 e.symm)) (fun _ h => h.2) u) (fun _ h => h.1)
  lt := by have := H.lt; simpa [World.setCell] using this
  hh := H.hh
  ht := H.ht
theorem R_all {α : Type} {k : Kd α} {e base : Nat} {ok : Nat → Prop} {v : Value} {l : List α} (h : k.R e W base ok v l) : k.R e W base (fun _ => True) v l := Kd.R_mono h (fun _ _ => trivial)
theorem R_in {α : Type} {k : Kd α} {e base : Nat} {ok : Nat → Prop} {v : Value} {l : List α} (h : k.R e W base ok v l) : k.R e W base (fun k => k < W.heap.size) v l := Kd.R_mono (Kd.R_bound h) (fun _ h => h.2.2.1)
/-- One more relocation. -/
theorem Held.more3 (H : Held w W B h x cs xs xt v1 d v2 y v3 r) {v3' : Value} {r' : List S43} {ok : Nat → Prop} (hR : Kd.R k43 43 W' w.heap.size ok v3' r') (hb : Below w.heap.size w W') (hg : W.grownBy W' v3.ownBlock) : Held w W' W'.heap.size h x cs xs xt v1 d v2 y v3' r' where
  below := hb
  obj := blk_grown H.obj hg (Kd.R_ne H.r3 H.obj (by decide))
  more := blk_grown H.more hg (Kd.R_ne H.r3 H.more (fun e => H.ht.2.2 e.symm))
  r1 := R_in (Kd.R_over' H.r1 (Kd.R_typed H.r3) (fun q hq => by rw [mem_one rfl hq]; decide) hg)
  r2 := R_in (Kd.R_over' H.r2 (Kd.R_typed H.r3) (fun q hq => by rw [mem_one rfl hq]; decide) hg)
  r3 := R_in hR
  lt := Nat.le_refl _
  hh := by have := H.hh; have := H.lt; have := hg.size; omega
  ht := H.ht
theorem Held.more2 (H : Held w W B h x cs xs xt v1 d v2 y v3 r) {v2' : Value} {y' : List S41} {ok : Nat → Prop} (hR : Kd.R k41 41 W' w.heap.size ok v2' y') (hb : Below w.heap.size w W') (hg : W.grownBy W' v2.ownBlock) : Held w W' W'.heap.size h x cs xs xt v1 d v2' y' v3 r where
  below := hb
  obj := blk_grown H.obj hg (Kd.R_ne H.r2 H.obj (by decide))
  more := blk_grown H.more hg (Kd.R_ne H.r2 H.more (fun e => H.ht.2.1 e.symm))
  r1 := R_in (Kd.R_over' H.r1 (Kd.R_typed H.r2) (fun q hq => by rw [mem_one rfl hq]; decide) hg)
  r2 := R_in hR
  r3 := R_in (Kd.R_over' H.r3 (Kd.R_typed H.r2) (fun q hq => by rw [mem_one rfl hq]; decide) hg)
  lt := Nat.le_refl _
  hh := by have := H.hh; have := H.lt; have := hg.size; omega
  ht := H.ht
theorem Held.more1 (H : Held w W B h x cs xs xt v1 d v2 y v3 r) {v1' : Value} {d' : List Int} {ok : Nat → Prop} (hR : Kd.R (Kd.int .i64) 2 W' w.heap.size ok v1' d') (hb : Below w.heap.size w W') (hg : W.grownBy W' v1.ownBlock) : Held w W' W'.heap.size h x cs xs xt v1' d' v2 y v3 r where
  below := hb
  obj := blk_grown H.obj hg (Kd.R_ne H.r1 H.obj (by decide))
  more := blk_grown H.more hg (Kd.R_ne H.r1 H.more (fun e => H.ht.1 e.symm))
  r1 := R_in hR
  r2 := R_in (Kd.R_over' H.r2 (Kd.R_typed H.r1) (fun q hq => by rw [mem_one rfl hq]; decide) hg)
  r3 := R_in (Kd.R_over' H.r3 (Kd.R_typed H.r1) (fun q hq => by rw [mem_one rfl hq]; decide) hg)
  lt := Nat.le_refl _
  hh := by have := H.hh; have := H.lt; have := hg.size; omega
  ht := H.ht
end
end Go.Proofs.Ytilmndkbloodbaa.M

