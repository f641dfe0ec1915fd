/-
  Texts of the proofs of LinkLinks, cut to what the proofs reach and packed by a program of this session (wip/packs.py). Each part begins with what it says; conditions: those told there.
-/
import Derived.Test.YteaealmnmmcbpaaPJA7
-- Written by a program of this session (wip/ownprint.py) over the translation. Lean checks it.
namespace Go.Proofs.Yteaealmnmmcbpaa.M
open Go.RowKit Go.Proofs.YteaealmnmmcbpaaW.PrintWords Go.Proofs.YteaealmnmmcbpaaW.PrintLast
set_option linter.unusedVariables false
set_option linter.unusedSimpArgs false

/-! ### cotterref07_names: function 28 -/
mutual
def cotterref07_names.l0 : Nat → List (S40) → List (S36) → Int → Option (Int)
  | 0, _, _, _ => none
  | k + 1, x0, x1, x5 => if x5 < (x1.length : Int) then (cotterref07_names.l1 k x0 x1 x5 0) else (cotterref07_names.l2 k x0 x1 0)
def cotterref07_names.l1 : Nat → List (S40) → List (S36) → Int → Int → Option (Int)
  | 0, _, _, _, _ => none
  | k + 1, x0, x1, x5, x6 => if x6 < x5 then (if 0 ≤ x6 then (if x6 < (x1.length : Int) then (if 0 ≤ x5 then (if x5 < (x1.length : Int) then (if ((rd_T36 x1 x6).f0).toList = ((rd_T36 x1 x5).f0).toList then (some 5) else (cotterref07_names.l1 k x0 x1 x5 (wrap64 (x6 + 1)))) else (none)) else (none)) else (none)) else (none)) else (cotterref07_names.l0 k x0 x1 (wrap64 (x5 + 1)))
def cotterref07_names.l2 : Nat → List (S40) → List (S36) → Int → Option (Int)
  | 0, _, _, _ => none
  | k + 1, x0, x1, x7 => if x7 < (x0.length : Int) then (cotterref07_names.l3 k x0 x1 x7 0) else (some 0)
def cotterref07_names.l3 : Nat → List (S40) → List (S36) → Int → Int → Option (Int)
  | 0, _, _, _, _ => none
  | k + 1, x0, x1, x7, x8 => if 0 ≤ x7 then (if x7 < (x0.length : Int) then (if x8 < (((rd_T40 x0 x7).f3).length : Int) then (if 0 ≤ x8 then ((cotterref07_find.f k x1 ((rd_T45 ((rd_T40 x0 x7).f3) x8).f2)).bind fun bt142 => (if bt142.2.2.2 = true then (if ((bt142.2.1 == 2) != (((rd_T45 ((rd_T40 x0 x7).f3) x8).f1) == 2)) = true then (some 3) else (cotterref07_names.l3 k x0 x1 x7 (wrap64 (x8 + 1)))) else (some 6))) else (none)) else (cotterref07_names.l2 k x0 x1 (wrap64 (x7 + 1)))) else (none)) else (none)
end
def cotterref07_names.f (k : Nat) (l0 : List (S40)) (l1 : List (S36)) : Option (Int) := cotterref07_names.l0 k l0 l1 0
set_option maxHeartbeats 8000000 in
set_option maxRecDepth 100000 in
theorem cotterref07_names.calls (k : Nat) (A0 : Option Addr) (c0 : Nat) (l0 : List (S40)) (A1 : Option Addr) (c1 : Nat) (l1 : List (S36)) (r : Int) (w : World) (hr0 : Kd.C k40 w A0 l0.length l0) (hc0 : l0.length ≤ c0) (hr1 : Kd.C k36 w A1 l1.length l1) (hc1 : l1.length ≤ c1) (h : cotterref07_names.f k l0 l1 = some r) :
    Calls Try.prog 28 #[.slice A0 l0.length c0, .slice A1 l1.length c1] w fun e w' => e = .returned (.int .i64 r) ∧ Below w.heap.size w w' := by
  have hu45 := Try.underlying45
  have hu36 := Try.underlying36
  have HR0 := Aside0.mk hr0
  have HC0 := Aside0.mk hc0
  clear hr0 hc0
  have HR1 := Aside0.mk hr1
  have HC1 := Aside0.mk hc1
  clear hr1 hc1
  have HB := Aside0.mk (Below.refl w.heap.size w)
  have H : (cotterref07_names.l0 k l0 l1 0) = some r := h
  clear h
  have H' := Aside0.mk H
  clear H
  go_enter Try.func28, Try.ntmps28
  go_wp2
  repeat (go_quiet (fail); try go_wp2)
  go_loopg [5] k (fun kq v5 w' => ∃ (x5_1 : Int), v5 = .int .i64 x5_1 ∧ Aside0 (cotterref07_names.l0 kq l0 l1 x5_1 = some r) ∧ Aside0 (kq ≤ k) ∧ Aside0 (Below w.heap.size w w'))
  case atStart => exact ⟨(0), (by first | rfl | (simp; done) | (simp [*]; done)), H', ⟨Nat.le_refl _⟩, ⟨by repeat (first | (with_reducible first | exact HB.out | apply below_alloc | apply pw_below_drewN | apply below_drew1) | exact HB.out)⟩⟩
  case round =>
    clear H'
    try clear c1
    try clear c2
    try clear p2
    obtain ⟨x5_1, rfl, HA, HK1, HB⟩ := hrel
    cases gk with
    | zero => exact absurd HA.out (by simp [cotterref07_names.l0])
    | succ k1 =>
      have H := HA.out
      clear HA
      simp only [cotterref07_names.l0] at H
      by_cases c3 : x5_1 < (l1.length : Int)
      · rw [if_pos c3] at H
        have c3b0 : decide (x5_1 < (l1.length : Int)) = true := decide_eq_true c3
        clear c3
        have H' := Aside0.mk H
        clear H
        go_wp2
        repeat (go_quiet (fail); try go_wp2)
        go_loopg [6] k1 (fun kq v6 w' => ∃ (x6_2 : Int), v6 = .int .i64 x6_2 ∧ Aside0 (cotterref07_names.l1 kq l0 l1 x5_1 x6_2 = some r) ∧ Aside0 (kq ≤ k1) ∧ Aside0 (Below w.heap.size w w'))
        case atStart => exact ⟨(0), (by first | rfl | (simp; done) | (simp [*]; done)), H', ⟨Nat.le_refl _⟩, ⟨by repeat (first | (with_reducible first | exact HB.out | apply below_alloc | apply pw_below_drewN | apply below_drew1) | exact HB.out)⟩⟩
        case round =>
          clear H'
          try clear c1
          try clear c2
          try clear p2
          try clear c3
          try clear c3b0
          try clear p2
          obtain ⟨x6_2, rfl, HA, HK2, HB⟩ := hrel
          cases gk with
          | zero => exact absurd HA.out (by simp [cotterref07_names.l1])
          | succ k2 =>
            have H := HA.out
            clear HA
            simp only [cotterref07_names.l1] at H
            by_cases c4 : x6_2 < x5_1
            · rw [if_pos c4] at H
              have c4b0 : decide (x6_2 < x5_1) = true := decide_eq_true c4
              clear c4
              by_cases c5 : 0 ≤ x6_2
              · rw [if_pos c5] at H
                have c5b0 : decide (0 ≤ x6_2) = true := decide_eq_true c5
                clear c5
                by_cases c6 : x6_2 < (l1.length : Int)
                · rw [if_pos c6] at H
                  have c6b0 : decide (x6_2 < (l1.length : Int)) = true := decide_eq_true c6
                  clear c6
                  by_cases c7 : 0 ≤ x5_1
                  · rw [if_pos c7] at H
                    have c7b0 : decide (0 ≤ x5_1) = true := decide_eq_true c7
                    clear c7
                    by_cases c8 : x5_1 < (l1.length : Int)
                    · rw [if_pos c8] at H
                      have c8b0 : decide (x5_1 < (l1.length : Int)) = true := decide_eq_true c8
                      clear c8
                      by_cases c9 : ((rd_T36 l1 x6_2).f0).toList = ((rd_T36 l1 x5_1).f0).toList
                      · rw [if_pos c9] at H
                        have c9b0 : (((rd_T36 l1 x6_2).f0).toList == ((rd_T36 l1 x5_1).f0).toList) = true := beq_iff_eq.mpr c9
                        have c9b1 : (((rd_T36 l1 x6_2).f0).toList != ((rd_T36 l1 x5_1).f0).toList) = false := bne_eq_false_iff_eq.mpr c9
                        clear c9
                        obtain rfl := Option.some.inj H
                        have p136 : 0 ≤ (x6_2 : Int) := of_decide_eq_true (by first | (with_reducible assumption) | assumption)
                        have q136 : x6_2 < (l1.length : Int) := of_decide_eq_true (by first | (with_reducible assumption) | assumption)
                        obtain ⟨ad136, e136, hx136_0, hx136_1, hx136_2⟩ := at_T36 HR1.out x6_2 p136 q136
                        cases e136
                        replace hx136_0 := (HB.out.cell (World.block_lt_of_cell? w _ hx136_0)).trans hx136_0
                        replace hx136_1 := (HB.out.cell (World.block_lt_of_cell? w _ hx136_1)).trans hx136_1
                        replace hx136_2 := (HB.out.cell (World.block_lt_of_cell? w _ hx136_2)).trans hx136_2
                        replace p136 := eq_true p136
                        replace q136 := eq_true q136
                        have p137 : 0 ≤ (x5_1 : Int) := of_decide_eq_true (by first | (with_reducible assumption) | assumption)
                        have q137 : x5_1 < (l1.length : Int) := of_decide_eq_true (by first | (with_reducible assumption) | assumption)
                        obtain ⟨ad137, e137, hx137_0, hx137_1, hx137_2⟩ := at_T36 HR1.out x5_1 p137 q137
                        obtain rfl : ad136 = ad137 := (by injection e137)
                        replace hx137_0 := (HB.out.cell (World.block_lt_of_cell? w _ hx137_0)).trans hx137_0
                        replace hx137_1 := (HB.out.cell (World.block_lt_of_cell? w _ hx137_1)).trans hx137_1
                        replace hx137_2 := (HB.out.cell (World.block_lt_of_cell? w _ hx137_2)).trans hx137_2
                        replace p137 := eq_true p137
                        replace q137 := eq_true q137
                        go_wp2
                        repeat (go_quiet (fail); try go_wp2)
                        go_ret
                        exact ⟨by first | rfl | (simp [errW_none, errW_some] <;> rfl) | (simp [*, errW_none, errW_some] <;> rfl), by repeat (first | (with_reducible first | exact HB.out | apply below_alloc | apply pw_below_drewN | apply below_drew1) | exact HB.out)⟩
                      · rw [if_neg c9] at H
                        have c9b0 : (((rd_T36 l1 x6_2).f0).toList == ((rd_T36 l1 x5_1).f0).toList) = false := beq_eq_false_iff_ne.mpr c9
                        have c9b1 : (((rd_T36 l1 x6_2).f0).toList != ((rd_T36 l1 x5_1).f0).toList) = true := bne_iff_ne.mpr c9
                        have H' := Aside0.mk H
                        clear H
                        have p136 : 0 ≤ (x6_2 : Int) := of_decide_eq_true (by first | (with_reducible assumption) | assumption)
                        have q136 : x6_2 < (l1.length : Int) := of_decide_eq_true (by first | (with_reducible assumption) | assumption)
                        obtain ⟨ad136, e136, hx136_0, hx136_1, hx136_2⟩ := at_T36 HR1.out x6_2 p136 q136
                        cases e136
                        replace hx136_0 := (HB.out.cell (World.block_lt_of_cell? w _ hx136_0)).trans hx136_0
                        replace hx136_1 := (HB.out.cell (World.block_lt_of_cell? w _ hx136_1)).trans hx136_1
                        replace hx136_2 := (HB.out.cell (World.block_lt_of_cell? w _ hx136_2)).trans hx136_2
                        replace p136 := eq_true p136
                        replace q136 := eq_true q136
                        have p137 : 0 ≤ (x5_1 : Int) := of_decide_eq_true (by first | (with_reducible assumption) | assumption)
                        have q137 : x5_1 < (l1.length : Int) := of_decide_eq_true (by first | (with_reducible assumption) | assumption)
                        obtain ⟨ad137, e137, hx137_0, hx137_1, hx137_2⟩ := at_T36 HR1.out x5_1 p137 q137
                        obtain rfl : ad136 = ad137 := (by injection e137)
                        replace hx137_0 := (HB.out.cell (World.block_lt_of_cell? w _ hx137_0)).trans hx137_0
                        replace hx137_1 := (HB.out.cell (World.block_lt_of_cell? w _ hx137_1)).trans hx137_1
                        replace hx137_2 := (HB.out.cell (World.block_lt_of_cell? w _ hx137_2)).trans hx137_2
                        replace p137 := eq_true p137
                        replace q137 := eq_true q137
                        go_wp2
                        repeat (go_quiet (fail); try go_wp2)
                        go_roundg k2
                        case measure => have := HK1.out; have := HK2.out; omega
                        case rel => exact ⟨(wrap64 (x6_2 + 1)), (by first | rfl | (simp; done) | (simp [*]; done)), H', ⟨by have := HK1.out; have := HK2.out; omega⟩, ⟨by repeat (first | (with_reducible first | exact HB.out | apply below_alloc | apply pw_below_drewN | apply below_drew1) | exact HB.out)⟩⟩
                    · rw [if_neg c8] at H
                      exact absurd H (by simp)
                  · rw [if_neg c7] at H
                    exact absurd H (by simp)
                · rw [if_neg c6] at H
                  exact absurd H (by simp)
              · rw [if_neg c5] at H
                exact absurd H (by simp)
            · rw [if_neg c4] at H
              have c4b0 : decide (x6_2 < x5_1) = false := decide_eq_false c4
              clear c4
              have H' := Aside0.mk H
              clear H
              go_wp2
              repeat (go_quiet (fail); try go_wp2)
              go_roundg k2
              case measure => have := HK1.out; have := HK2.out; omega
              case rel => exact ⟨(wrap64 (x5_1 + 1)), (by first | rfl | (simp; done) | (simp [*]; done)), H', ⟨by have := HK1.out; have := HK2.out; omega⟩, ⟨by repeat (first | (with_reducible first | exact HB.out | apply below_alloc | apply pw_below_drewN | apply below_drew1) | exact HB.out)⟩⟩
      · rw [if_neg c3] at H
        have c3b0 : decide (x5_1 < (l1.length : Int)) = false := decide_eq_false c3
        clear c3
        have H' := Aside0.mk H
        clear H
        go_wp2
        repeat (go_quiet (fail); try go_wp2)
        go_loopg [7] k1 (fun kq v7 w' => ∃ (x7_2 : Int), v7 = .int .i64 x7_2 ∧ Aside0 (cotterref07_names.l2 kq l0 l1 x7_2 = some r) ∧ Aside0 (kq ≤ k1) ∧ Aside0 (Below w.heap.size w w'))
        case atStart => exact ⟨(0), (by first | rfl | (simp; done) | (simp [*]; done)), H', ⟨Nat.le_refl _⟩, ⟨by repeat (first | (with_reducible first | exact HB.out | apply below_alloc | apply pw_below_drewN | apply below_drew1) | exact HB.out)⟩⟩
        case round =>
          clear H'
          try clear c1
          try clear p1
          try clear q1
          try clear hx1
          try clear c2
          try clear p2
          try clear c3
          try clear c3b0
          try clear c4
          try clear c4b0
          try clear c5
          try clear c5b0
          try clear c6
          try clear c6b0
          try clear p6
          try clear c7
          try clear c7b0
          try clear c8
          try clear c8b0
          try clear c9
          try clear c9b0
          try clear c9b1
          try clear hx136_0
          try clear hx136_1
          try clear hx136_2
          try clear hx137_0
          try clear hx137_1
          try clear hx137_2
          try clear p136
          try clear p137
          try clear p2
          try clear q136
          try clear q137
          obtain ⟨x7_2, rfl, HA, HK2, HB⟩ := hrel
          cases gk with
          | zero => exact absurd HA.out (by simp [cotterref07_names.l2])
          | succ k2 =>
            have H := HA.out
            clear HA
            simp only [cotterref07_names.l2] at H
            by_cases c10 : x7_2 < (l0.length : Int)
            · rw [if_pos c10] at H
              have c10b0 : decide (x7_2 < (l0.length : Int)) = true := decide_eq_true c10
              clear c10
              have H' := Aside0.mk H
              clear H
              go_wp2
              repeat (go_quiet (fail); try go_wp2)
              go_loopg [8] k2 (fun kq v8 w' => ∃ (x8_3 : Int), v8 = .int .i64 x8_3 ∧ Aside0 (cotterref07_names.l3 kq l0 l1 x7_2 x8_3 = some r) ∧ Aside0 (kq ≤ k2) ∧ Aside0 (Below w.heap.size w w'))
              case atStart => exact ⟨(0), (by first | rfl | (simp; done) | (simp [*]; done)), H', ⟨Nat.le_refl _⟩, ⟨by repeat (first | (with_reducible first | exact HB.out | apply below_alloc | apply pw_below_drewN | apply below_drew1) | exact HB.out)⟩⟩
              case round =>
                clear H'
                try clear c1
                try clear p1
                try clear q1
                try clear hx1
                try clear c2
                try clear p2
                try clear c3
                try clear c3b0
                try clear c4
                try clear c4b0
                try clear c5
                try clear c5b0
                try clear c6
                try clear c6b0
                try clear p6
                try clear c7
                try clear c7b0
                try clear c8
                try clear c8b0
                try clear c9
                try clear c9b0
                try clear c9b1
                try clear c10
                try clear c10b0
                try clear hx136_0
                try clear hx136_1
                try clear hx136_2
                try clear hx137_0
                try clear hx137_1
                try clear hx137_2
                try clear p1
                try clear p136
                try clear p137
                try clear p2
                try clear p6
                try clear q1
                try clear q136
                try clear q137
                obtain ⟨x8_3, rfl, HA, HK3, HB⟩ := hrel
                cases gk with
                | zero => exact absurd HA.out (by simp [cotterref07_names.l3])
                | succ k3 =>
                  have H := HA.out
                  clear HA
                  simp only [cotterref07_names.l3] at H
                  by_cases c11 : 0 ≤ x7_2
                  · rw [if_pos c11] at H
                    have c11b0 : decide (0 ≤ x7_2) = true := decide_eq_true c11
                    clear c11
                    by_cases c12 : x7_2 < (l0.length : Int)
                    · rw [if_pos c12] at H
                      have c12b0 : decide (x7_2 < (l0.length : Int)) = true := decide_eq_true c12
                      clear c12
                      by_cases c13 : x8_3 < (((rd_T40 l0 x7_2).f3).length : Int)
                      · rw [if_pos c13] at H
                        have c13b0 : decide (x8_3 < (((rd_T40 l0 x7_2).f3).length : Int)) = true := decide_eq_true c13
                        clear c13
                        by_cases c14 : 0 ≤ x8_3
                        · rw [if_pos c14] at H
                          have c14b0 : decide (0 ≤ x8_3) = true := decide_eq_true c14
                          clear c14
                          replace H := Option.bind_eq_some_iff.mp H
                          obtain ⟨⟨t142, t143, t144, t145⟩, A150, H⟩ := H
                          replace H : (if t145 = true then (if ((t143 == 2) != (((rd_T45 ((rd_T40 l0 x7_2).f3) x8_3).f1) == 2)) = true then (some 3) else (cotterref07_names.l3 k3 l0 l1 x7_2 (wrap64 (x8_3 + 1)))) else (some 6)) = some r := H
                          have A15 := Aside0.mk A150
                          clear A150
                          by_cases c16 : t145 = true
                          · subst c16
                            have H1 : (if ((t143 == 2) != (((rd_T45 ((rd_T40 l0 x7_2).f3) x8_3).f1) == 2)) = true then (some 3) else (cotterref07_names.l3 k3 l0 l1 x7_2 (wrap64 (x8_3 + 1)))) = some r := by rw [if_pos rfl] at H; exact H
                            clear H
                            have H := H1
                            clear H1
                            by_cases c17 : ((t143 == 2) != (((rd_T45 ((rd_T40 l0 x7_2).f3) x8_3).f1) == 2)) = true
                            · rw [if_pos c17] at H
                              have c17b0 : ((t143 == 2) != (((rd_T45 ((rd_T40 l0 x7_2).f3) x8_3).f1) == 2)) = true := c17
                              (try (have c17b1 : decide ((t143 == 2) = (((rd_T45 ((rd_T40 l0 x7_2).f3) x8_3).f1) == 2)) = false := by simpa using c17))
                              (try (have c17b2 : ((t143 == 2) == (((rd_T45 ((rd_T40 l0 x7_2).f3) x8_3).f1) == 2)) = false := by simpa using c17))
                              (try (have c17b3 : ¬ ((t143 == 2) = (((rd_T45 ((rd_T40 l0 x7_2).f3) x8_3).f1) == 2)) := by simpa using c17))
                              clear c17
                              obtain rfl := Option.some.inj H
                              have p138 : 0 ≤ (x7_2 : Int) := of_decide_eq_true (by first | (with_reducible assumption) | assumption)
                              have q138 : x7_2 < (l0.length : Int) := of_decide_eq_true (by first | (with_reducible assumption) | assumption)
                              obtain ⟨ad138, A138_1, c138_1, A138_2, c138_2, A138_3, c138_3, e138, hx138_0, hx138_1, hx138_2, hx138_3, hl138_1, hi138_1, hl138_2, hi138_2, hl138_3, hi138_3⟩ := at_T40 HR0.out x7_2 p138 q138
                              cases e138
                              replace hx138_0 := (HB.out.cell (World.block_lt_of_cell? w _ hx138_0)).trans hx138_0
                              replace hx138_1 := (HB.out.cell (World.block_lt_of_cell? w _ hx138_1)).trans hx138_1
                              replace hx138_2 := (HB.out.cell (World.block_lt_of_cell? w _ hx138_2)).trans hx138_2
                              replace hx138_3 := (HB.out.cell (World.block_lt_of_cell? w _ hx138_3)).trans hx138_3
                              have HR138_1 := Aside0.mk hi138_1
                              have HC138_1 := Aside0.mk hl138_1
                              clear hi138_1 hl138_1
                              have HR138_2 := Aside0.mk hi138_2
                              have HC138_2 := Aside0.mk hl138_2
                              clear hi138_2 hl138_2
                              have HR138_3 := Aside0.mk hi138_3
                              have HC138_3 := Aside0.mk hl138_3
                              clear hi138_3 hl138_3
                              replace p138 := eq_true p138
                              replace q138 := eq_true q138
                              have p139 : 0 ≤ (x7_2 : Int) := of_decide_eq_true (by first | (with_reducible assumption) | assumption)
                              have q139 : x7_2 < (l0.length : Int) := of_decide_eq_true (by first | (with_reducible assumption) | assumption)
                              obtain ⟨ad139, A139_1, c139_1, A139_2, c139_2, A139_3, c139_3, e139, hx139_0, hx139_1, hx139_2, hx139_3, hl139_1, hi139_1, hl139_2, hi139_2, hl139_3, hi139_3⟩ := at_T40 HR0.out x7_2 p139 q139
                              obtain rfl : ad138 = ad139 := (by injection e139)
                              replace hx139_0 := (HB.out.cell (World.block_lt_of_cell? w _ hx139_0)).trans hx139_0
                              replace hx139_1 := (HB.out.cell (World.block_lt_of_cell? w _ hx139_1)).trans hx139_1
                              replace hx139_2 := (HB.out.cell (World.block_lt_of_cell? w _ hx139_2)).trans hx139_2
                              replace hx139_3 := (HB.out.cell (World.block_lt_of_cell? w _ hx139_3)).trans hx139_3
                              have HR139_1 := Aside0.mk hi139_1
                              have HC139_1 := Aside0.mk hl139_1
                              clear hi139_1 hl139_1
                              have HR139_2 := Aside0.mk hi139_2
                              have HC139_2 := Aside0.mk hl139_2
                              clear hi139_2 hl139_2
                              have HR139_3 := Aside0.mk hi139_3
                              have HC139_3 := Aside0.mk hl139_3
                              clear hi139_3 hl139_3
                              replace p139 := eq_true p139
                              replace q139 := eq_true q139
                              have ea_ := Option.some.inj (hx138_1.symm.trans hx139_1)
                              injection ea_ with ea_ en_ ec_
                              subst ea_
                              subst ec_
                              clear en_
                              have ea_ := Option.some.inj (hx138_2.symm.trans hx139_2)
                              injection ea_ with ea_ en_ ec_
                              subst ea_
                              subst ec_
                              clear en_
                              have ea_ := Option.some.inj (hx138_3.symm.trans hx139_3)
                              injection ea_ with ea_ en_ ec_
                              subst ea_
                              subst ec_
                              clear en_
                              have p140 : 0 ≤ (x8_3 : Int) := of_decide_eq_true (by first | (with_reducible assumption) | assumption)
                              have q140 : x8_3 < (((rd_T40 l0 x7_2).f3).length : Int) := of_decide_eq_true (by first | (with_reducible assumption) | assumption)
                              obtain ⟨ad140, e140, hx140_0, hx140_1, hx140_2, hx140_3⟩ := at_T45 HR139_3.out x8_3 p140 q140
                              cases e140
                              replace hx140_0 := (HB.out.cell (World.block_lt_of_cell? w _ hx140_0)).trans hx140_0
                              replace hx140_1 := (HB.out.cell (World.block_lt_of_cell? w _ hx140_1)).trans hx140_1
                              replace hx140_2 := (HB.out.cell (World.block_lt_of_cell? w _ hx140_2)).trans hx140_2
                              replace hx140_3 := (HB.out.cell (World.block_lt_of_cell? w _ hx140_3)).trans hx140_3
                              replace p140 := eq_true p140
                              replace q140 := eq_true q140
                              go_wp2_with (first | ((with_reducible refine gate_dst (N := 9) rfl ?_); refine box_event ?hg (N := 9) ?hd (cs := #[.int .i64 0, .int .i64 0, .string (⟨#[]⟩ : ByteArray), .int .i64 0]) (t := 45) ?hr ?_; (case hd => rfl); (case hg => rfl); (case hr => first | (go_simp; done) | (go_simp; rfl)); intro gb141 hg w18 hbox hb; have n0_ := Aside0.mk (below_step (by repeat (first | (with_reducible first | exact HB.out | apply below_alloc | apply pw_below_drewN | apply below_drew1) | exact HB.out)) hb); have n1_ := Aside0.mk (hbox); have n2_ := Aside0.mk ((by rw [hg]; exact (below_size (by repeat (first | (with_reducible first | exact HB.out | apply below_alloc | apply pw_below_drewN | apply below_drew1) | exact HB.out))) : w.heap.size ≤ gb141)); have n3_ := Aside0.mk ((by rw [hg]; exact (below_size (by repeat (first | (with_reducible first | exact HB.out | apply below_alloc | apply pw_below_drewN | apply below_drew1) | exact HB.out))) : w.heap.size ≤ gb141)); clear HB; have HB := n0_; have BK141 := n1_; have GW141 := n2_; have GE141 := n3_; clear n0_ n1_ n2_ n3_; clear hb hbox hg; have hcz19_0 : w18.cell? ⟨gb141, 0, none⟩ = some (.int .i64 0) := (blk_cell BK141.out 0).trans rfl; have hcz19_1 : w18.cell? ⟨gb141, 1, none⟩ = some (.int .i64 0) := (blk_cell BK141.out 1).trans rfl; have hcz19_2 : w18.cell? ⟨gb141, 2, none⟩ = some (.string (⟨#[]⟩ : ByteArray)) := (blk_cell BK141.out 2).trans rfl; have hcz19_3 : w18.cell? ⟨gb141, 3, none⟩ = some (.int .i64 0) := (blk_cell BK141.out 3).trans rfl; have hfz19_0 := blk_frozen BK141.out 0; have hfz19_1 := blk_frozen BK141.out 1; have hfz19_2 := blk_frozen BK141.out 2; have hfz19_3 := blk_frozen BK141.out 3) | (go_at_call 30; (with_reducible refine (cotterref07_find.calls k3 _ _ l1 ((rd_T45 ((rd_T40 l0 x7_2).f3) x8_3).f2) t142 t143 t144 true _ ?side1 ?side2 A15.out).mono ?_); (case side1 => exact Kd.C_below HR1.out (by repeat (first | (with_reducible first | exact HB.out | apply below_alloc | apply pw_below_drewN | apply below_drew1 | refine below_set ?_ GE141.out) | exact HB.out))); (case side2 => exact HC1.out); rintro e w20 ⟨rfl, hb⟩; have n0_ := Aside0.mk (blk_below (g := gb141) (o := .cells #[.int .i64 ((rd_T45 ((rd_T40 l0 x7_2).f3) x8_3).f0), .int .i64 ((rd_T45 ((rd_T40 l0 x7_2).f3) x8_3).f1), .string ((rd_T45 ((rd_T40 l0 x7_2).f3) x8_3).f2), .int .i64 ((rd_T45 ((rd_T40 l0 x7_2).f3) x8_3).f3)] 45 (0, 0)) (by (with_reducible repeat (first | refine blk_drewN ?_ _ | refine blk_drew ?_ | refine blk_alloc ?_ _)); refine blk_put (cs := #[.int .i64 ((rd_T45 ((rd_T40 l0 x7_2).f3) x8_3).f0), .int .i64 ((rd_T45 ((rd_T40 l0 x7_2).f3) x8_3).f1), .string ((rd_T45 ((rd_T40 l0 x7_2).f3) x8_3).f2), .int .i64 0]) ?_ 3 _ rfl; (with_reducible repeat (first | refine blk_drewN ?_ _ | refine blk_drew ?_ | refine blk_alloc ?_ _)); refine blk_put (cs := #[.int .i64 ((rd_T45 ((rd_T40 l0 x7_2).f3) x8_3).f0), .int .i64 ((rd_T45 ((rd_T40 l0 x7_2).f3) x8_3).f1), .string (⟨#[]⟩ : ByteArray), .int .i64 0]) ?_ 2 _ rfl; (with_reducible repeat (first | refine blk_drewN ?_ _ | refine blk_drew ?_ | refine blk_alloc ?_ _)); refine blk_put (cs := #[.int .i64 ((rd_T45 ((rd_T40 l0 x7_2).f3) x8_3).f0), .int .i64 0, .string (⟨#[]⟩ : ByteArray), .int .i64 0]) ?_ 1 _ rfl; (with_reducible repeat (first | refine blk_drewN ?_ _ | refine blk_drew ?_ | refine blk_alloc ?_ _)); refine blk_put (cs := #[.int .i64 0, .int .i64 0, .string (⟨#[]⟩ : ByteArray), .int .i64 0]) ?_ 0 _ rfl; (with_reducible repeat (first | refine blk_drewN ?_ _ | refine blk_drew ?_ | refine blk_alloc ?_ _)); exact BK141.out) hb); have n1_ := Aside0.mk (below_step (by repeat (first | (with_reducible first | exact HB.out | apply below_alloc | apply pw_below_drewN | apply below_drew1 | refine below_set ?_ GE141.out) | exact HB.out)) hb); clear BK141; clear HB; have BK141 := n0_; have HB := n1_; clear n0_ n1_; (try clear hb); (try clear hb2); (try clear hk); (try clear hi)) | ((with_reducible refine gate_dst (N := 10) rfl ?_); refine box_event ?hg (N := 10) ?hd (cs := #[.string (⟨#[]⟩ : ByteArray), .int .i64 0, .int .i64 0]) (t := 36) ?hr ?_; (case hd => rfl); (case hg => rfl); (case hr => first | (go_simp; done) | (go_simp; rfl)); intro gb146 hg w21 hbox hb; have n0_ := Aside0.mk (blk_below (g := gb141) (o := .cells #[.int .i64 ((rd_T45 ((rd_T40 l0 x7_2).f3) x8_3).f0), .int .i64 ((rd_T45 ((rd_T40 l0 x7_2).f3) x8_3).f1), .string ((rd_T45 ((rd_T40 l0 x7_2).f3) x8_3).f2), .int .i64 ((rd_T45 ((rd_T40 l0 x7_2).f3) x8_3).f3)] 45 (0, 0)) (by (with_reducible repeat (first | refine blk_drewN ?_ _ | refine blk_drew ?_ | refine blk_alloc ?_ _)); exact BK141.out) hb); have n1_ := Aside0.mk (below_step (by repeat (first | (with_reducible first | exact HB.out | apply below_alloc | apply pw_below_drewN | apply below_drew1 | refine below_set ?_ GE141.out) | exact HB.out)) hb); have n2_ := Aside0.mk (hbox); have n3_ := Aside0.mk ((by rw [hg]; exact (below_size (by repeat (first | (with_reducible first | exact HB.out | apply below_alloc | apply pw_below_drewN | apply below_drew1 | refine below_set ?_ GE141.out) | exact HB.out))) : w.heap.size ≤ gb146)); have n4_ := Aside0.mk ((by rw [hg]; exact (below_size (by repeat (first | (with_reducible first | exact HB.out | apply below_alloc | apply pw_below_drewN | apply below_drew1 | refine below_set ?_ GE141.out) | exact HB.out))) : w.heap.size ≤ gb146)); have n5_ := Aside0.mk ((by rw [hg]; exact Nat.ne_of_lt (blk_lt (g := gb141) (o := .cells #[.int .i64 ((rd_T45 ((rd_T40 l0 x7_2).f3) x8_3).f0), .int .i64 ((rd_T45 ((rd_T40 l0 x7_2).f3) x8_3).f1), .string ((rd_T45 ((rd_T40 l0 x7_2).f3) x8_3).f2), .int .i64 ((rd_T45 ((rd_T40 l0 x7_2).f3) x8_3).f3)] 45 (0, 0)) (by (with_reducible repeat (first | refine blk_drewN ?_ _ | refine blk_drew ?_ | refine blk_alloc ?_ _)); exact BK141.out)) : gb141 ≠ gb146)); have n6_ := Aside0.mk ((by rw [hg]; exact Nat.ne_of_gt (blk_lt (g := gb141) (o := .cells #[.int .i64 ((rd_T45 ((rd_T40 l0 x7_2).f3) x8_3).f0), .int .i64 ((rd_T45 ((rd_T40 l0 x7_2).f3) x8_3).f1), .string ((rd_T45 ((rd_T40 l0 x7_2).f3) x8_3).f2), .int .i64 ((rd_T45 ((rd_T40 l0 x7_2).f3) x8_3).f3)] 45 (0, 0)) (by (with_reducible repeat (first | refine blk_drewN ?_ _ | refine blk_drew ?_ | refine blk_alloc ?_ _)); exact BK141.out)) : gb146 ≠ gb141)); clear BK141; clear HB; have BK141 := n0_; have HB := n1_; have BK146 := n2_; have GW146 := n3_; have GE146 := n4_; have NB141_146 := n5_; have NB146_141 := n6_; clear n0_ n1_ n2_ n3_ n4_ n5_ n6_; clear hb hbox hg; have hnb22 := NB146_141.out; have hnc22 := NB141_146.out; have hcz23_0 : w21.cell? ⟨gb146, 0, none⟩ = some (.string (⟨#[]⟩ : ByteArray)) := (blk_cell BK146.out 0).trans rfl; have hcz23_1 : w21.cell? ⟨gb146, 1, none⟩ = some (.int .i64 0) := (blk_cell BK146.out 1).trans rfl; have hcz23_2 : w21.cell? ⟨gb146, 2, none⟩ = some (.int .i64 0) := (blk_cell BK146.out 2).trans rfl; have hfz23_0 := blk_frozen BK146.out 0; have hfz23_1 := blk_frozen BK146.out 1; have hfz23_2 := blk_frozen BK146.out 2; have hcz24_0 : w21.cell? ⟨gb141, 0, none⟩ = some (.int .i64 ((rd_T45 ((rd_T40 l0 x7_2).f3) x8_3).f0)) := (blk_cell BK141.out 0).trans rfl; have hcz24_1 : w21.cell? ⟨gb141, 1, none⟩ = some (.int .i64 ((rd_T45 ((rd_T40 l0 x7_2).f3) x8_3).f1)) := (blk_cell BK141.out 1).trans rfl; have hcz24_2 : w21.cell? ⟨gb141, 2, none⟩ = some (.string ((rd_T45 ((rd_T40 l0 x7_2).f3) x8_3).f2)) := (blk_cell BK141.out 2).trans rfl; have hcz24_3 : w21.cell? ⟨gb141, 3, none⟩ = some (.int .i64 ((rd_T45 ((rd_T40 l0 x7_2).f3) x8_3).f3)) := (blk_cell BK141.out 3).trans rfl; have hfz24_0 := blk_frozen BK141.out 0; have hfz24_1 := blk_frozen BK141.out 1; have hfz24_2 := blk_frozen BK141.out 2; have hfz24_3 := blk_frozen BK141.out 3))
                              repeat (go_quiet (first | ((with_reducible refine gate_dst (N := 9) rfl ?_); refine box_event ?hg (N := 9) ?hd (cs := #[.int .i64 0, .int .i64 0, .string (⟨#[]⟩ : ByteArray), .int .i64 0]) (t := 45) ?hr ?_; (case hd => rfl); (case hg => rfl); (case hr => first | (go_simp; done) | (go_simp; rfl)); intro gb141 hg w18 hbox hb; have n0_ := Aside0.mk (below_step (by repeat (first | (with_reducible first | exact HB.out | apply below_alloc | apply pw_below_drewN | apply below_drew1) | exact HB.out)) hb); have n1_ := Aside0.mk (hbox); have n2_ := Aside0.mk ((by rw [hg]; exact (below_size (by repeat (first | (with_reducible first | exact HB.out | apply below_alloc | apply pw_below_drewN | apply below_drew1) | exact HB.out))) : w.heap.size ≤ gb141)); have n3_ := Aside0.mk ((by rw [hg]; exact (below_size (by repeat (first | (with_reducible first | exact HB.out | apply below_alloc | apply pw_below_drewN | apply below_drew1) | exact HB.out))) : w.heap.size ≤ gb141)); clear HB; have HB := n0_; have BK141 := n1_; have GW141 := n2_; have GE141 := n3_; clear n0_ n1_ n2_ n3_; clear hb hbox hg; have hcz19_0 : w18.cell? ⟨gb141, 0, none⟩ = some (.int .i64 0) := (blk_cell BK141.out 0).trans rfl; have hcz19_1 : w18.cell? ⟨gb141, 1, none⟩ = some (.int .i64 0) := (blk_cell BK141.out 1).trans rfl; have hcz19_2 : w18.cell? ⟨gb141, 2, none⟩ = some (.string (⟨#[]⟩ : ByteArray)) := (blk_cell BK141.out 2).trans rfl; have hcz19_3 : w18.cell? ⟨gb141, 3, none⟩ = some (.int .i64 0) := (blk_cell BK141.out 3).trans rfl; have hfz19_0 := blk_frozen BK141.out 0; have hfz19_1 := blk_frozen BK141.out 1; have hfz19_2 := blk_frozen BK141.out 2; have hfz19_3 := blk_frozen BK141.out 3) | (go_at_call 30; (with_reducible refine (cotterref07_find.calls k3 _ _ l1 ((rd_T45 ((rd_T40 l0 x7_2).f3) x8_3).f2) t142 t143 t144 true _ ?side1 ?side2 A15.out).mono ?_); (case side1 => exact Kd.C_below HR1.out (by repeat (first | (with_reducible first | exact HB.out | apply below_alloc | apply pw_below_drewN | apply below_drew1 | refine below_set ?_ GE141.out) | exact HB.out))); (case side2 => exact HC1.out); rintro e w20 ⟨rfl, hb⟩; have n0_ := Aside0.mk (blk_below (g := gb141) (o := .cells #[.int .i64 ((rd_T45 ((rd_T40 l0 x7_2).f3) x8_3).f0), .int .i64 ((rd_T45 ((rd_T40 l0 x7_2).f3) x8_3).f1), .string ((rd_T45 ((rd_T40 l0 x7_2).f3) x8_3).f2), .int .i64 ((rd_T45 ((rd_T40 l0 x7_2).f3) x8_3).f3)] 45 (0, 0)) (by (with_reducible repeat (first | refine blk_drewN ?_ _ | refine blk_drew ?_ | refine blk_alloc ?_ _)); refine blk_put (cs := #[.int .i64 ((rd_T45 ((rd_T40 l0 x7_2).f3) x8_3).f0), .int .i64 ((rd_T45 ((rd_T40 l0 x7_2).f3) x8_3).f1), .string ((rd_T45 ((rd_T40 l0 x7_2).f3) x8_3).f2), .int .i64 0]) ?_ 3 _ rfl; (with_reducible repeat (first | refine blk_drewN ?_ _ | refine blk_drew ?_ | refine blk_alloc ?_ _)); refine blk_put (cs := #[.int .i64 ((rd_T45 ((rd_T40 l0 x7_2).f3) x8_3).f0), .int .i64 ((rd_T45 ((rd_T40 l0 x7_2).f3) x8_3).f1), .string (⟨#[]⟩ : ByteArray), .int .i64 0]) ?_ 2 _ rfl; (with_reducible repeat (first | refine blk_drewN ?_ _ | refine blk_drew ?_ | refine blk_alloc ?_ _)); refine blk_put (cs := #[.int .i64 ((rd_T45 ((rd_T40 l0 x7_2).f3) x8_3).f0), .int .i64 0, .string (⟨#[]⟩ : ByteArray), .int .i64 0]) ?_ 1 _ rfl; (with_reducible repeat (first | refine blk_drewN ?_ _ | refine blk_drew ?_ | refine blk_alloc ?_ _)); refine blk_put (cs := #[.int .i64 0, .int .i64 0, .string (⟨#[]⟩ : ByteArray), .int .i64 0]) ?_ 0 _ rfl; (with_reducible repeat (first | refine blk_drewN ?_ _ | refine blk_drew ?_ | refine blk_alloc ?_ _)); exact BK141.out) hb); have n1_ := Aside0.mk (below_step (by repeat (first | (with_reducible first | exact HB.out | apply below_alloc | apply pw_below_drewN | apply below_drew1 | refine below_set ?_ GE141.out) | exact HB.out)) hb); clear BK141; clear HB; have BK141 := n0_; have HB := n1_; clear n0_ n1_; (try clear hb); (try clear hb2); (try clear hk); (try clear hi)) | ((with_reducible refine gate_dst (N := 10) rfl ?_); refine box_event ?hg (N := 10) ?hd (cs := #[.string (⟨#[]⟩ : ByteArray), .int .i64 0, .int .i64 0]) (t := 36) ?hr ?_; (case hd => rfl); (case hg => rfl); (case hr => first | (go_simp; done) | (go_simp; rfl)); intro gb146 hg w21 hbox hb; have n0_ := Aside0.mk (blk_below (g := gb141) (o := .cells #[.int .i64 ((rd_T45 ((rd_T40 l0 x7_2).f3) x8_3).f0), .int .i64 ((rd_T45 ((rd_T40 l0 x7_2).f3) x8_3).f1), .string ((rd_T45 ((rd_T40 l0 x7_2).f3) x8_3).f2), .int .i64 ((rd_T45 ((rd_T40 l0 x7_2).f3) x8_3).f3)] 45 (0, 0)) (by (with_reducible repeat (first | refine blk_drewN ?_ _ | refine blk_drew ?_ | refine blk_alloc ?_ _)); exact BK141.out) hb); have n1_ := Aside0.mk (below_step (by repeat (first | (with_reducible first | exact HB.out | apply below_alloc | apply pw_below_drewN | apply below_drew1 | refine below_set ?_ GE141.out) | exact HB.out)) hb); have n2_ := Aside0.mk (hbox); have n3_ := Aside0.mk ((by rw [hg]; exact (below_size (by repeat (first | (with_reducible first | exact HB.out | apply below_alloc | apply pw_below_drewN | apply below_drew1 | refine below_set ?_ GE141.out) | exact HB.out))) : w.heap.size ≤ gb146)); have n4_ := Aside0.mk ((by rw [hg]; exact (below_size (by repeat (first | (with_reducible first | exact HB.out | apply below_alloc | apply pw_below_drewN | apply below_drew1 | refine below_set ?_ GE141.out) | exact HB.out))) : w.heap.size ≤ gb146)); have n5_ := Aside0.mk ((by rw [hg]; exact Nat.ne_of_lt (blk_lt (g := gb141) (o := .cells #[.int .i64 ((rd_T45 ((rd_T40 l0 x7_2).f3) x8_3).f0), .int .i64 ((rd_T45 ((rd_T40 l0 x7_2).f3) x8_3).f1), .string ((rd_T45 ((rd_T40 l0 x7_2).f3) x8_3).f2), .int .i64 ((rd_T45 ((rd_T40 l0 x7_2).f3) x8_3).f3)] 45 (0, 0)) (by (with_reducible repeat (first | refine blk_drewN ?_ _ | refine blk_drew ?_ | refine blk_alloc ?_ _)); exact BK141.out)) : gb141 ≠ gb146)); have n6_ := Aside0.mk ((by rw [hg]; exact Nat.ne_of_gt (blk_lt (g := gb141) (o := .cells #[.int .i64 ((rd_T45 ((rd_T40 l0 x7_2).f3) x8_3).f0), .int .i64 ((rd_T45 ((rd_T40 l0 x7_2).f3) x8_3).f1), .string ((rd_T45 ((rd_T40 l0 x7_2).f3) x8_3).f2), .int .i64 ((rd_T45 ((rd_T40 l0 x7_2).f3) x8_3).f3)] 45 (0, 0)) (by (with_reducible repeat (first | refine blk_drewN ?_ _ | refine blk_drew ?_ | refine blk_alloc ?_ _)); exact BK141.out)) : gb146 ≠ gb141)); clear BK141; clear HB; have BK141 := n0_; have HB := n1_; have BK146 := n2_; have GW146 := n3_; have GE146 := n4_; have NB141_146 := n5_; have NB146_141 := n6_; clear n0_ n1_ n2_ n3_ n4_ n5_ n6_; clear hb hbox hg; have hnb22 := NB146_141.out; have hnc22 := NB141_146.out; have hcz23_0 : w21.cell? ⟨gb146, 0, none⟩ = some (.string (⟨#[]⟩ : ByteArray)) := (blk_cell BK146.out 0).trans rfl; have hcz23_1 : w21.cell? ⟨gb146, 1, none⟩ = some (.int .i64 0) := (blk_cell BK146.out 1).trans rfl; have hcz23_2 : w21.cell? ⟨gb146, 2, none⟩ = some (.int .i64 0) := (blk_cell BK146.out 2).trans rfl; have hfz23_0 := blk_frozen BK146.out 0; have hfz23_1 := blk_frozen BK146.out 1; have hfz23_2 := blk_frozen BK146.out 2; have hcz24_0 : w21.cell? ⟨gb141, 0, none⟩ = some (.int .i64 ((rd_T45 ((rd_T40 l0 x7_2).f3) x8_3).f0)) := (blk_cell BK141.out 0).trans rfl; have hcz24_1 : w21.cell? ⟨gb141, 1, none⟩ = some (.int .i64 ((rd_T45 ((rd_T40 l0 x7_2).f3) x8_3).f1)) := (blk_cell BK141.out 1).trans rfl; have hcz24_2 : w21.cell? ⟨gb141, 2, none⟩ = some (.string ((rd_T45 ((rd_T40 l0 x7_2).f3) x8_3).f2)) := (blk_cell BK141.out 2).trans rfl; have hcz24_3 : w21.cell? ⟨gb141, 3, none⟩ = some (.int .i64 ((rd_T45 ((rd_T40 l0 x7_2).f3) x8_3).f3)) := (blk_cell BK141.out 3).trans rfl; have hfz24_0 := blk_frozen BK141.out 0; have hfz24_1 := blk_frozen BK141.out 1; have hfz24_2 := blk_frozen BK141.out 2; have hfz24_3 := blk_frozen BK141.out 3)); try go_wp2_with (first | ((with_reducible refine gate_dst (N := 9) rfl ?_); refine box_event ?hg (N := 9) ?hd (cs := #[.int .i64 0, .int .i64 0, .string (⟨#[]⟩ : ByteArray), .int .i64 0]) (t := 45) ?hr ?_; (case hd => rfl); (case hg => rfl); (case hr => first | (go_simp; done) | (go_simp; rfl)); intro gb141 hg w18 hbox hb; have n0_ := Aside0.mk (below_step (by repeat (first | (with_reducible first | exact HB.out | apply below_alloc | apply pw_below_drewN | apply below_drew1) | exact HB.out)) hb); have n1_ := Aside0.mk (hbox); have n2_ := Aside0.mk ((by rw [hg]; exact (below_size (by repeat (first | (with_reducible first | exact HB.out | apply below_alloc | apply pw_below_drewN | apply below_drew1) | exact HB.out))) : w.heap.size ≤ gb141)); have n3_ := Aside0.mk ((by rw [hg]; exact (below_size (by repeat (first | (with_reducible first | exact HB.out | apply below_alloc | apply pw_below_drewN | apply below_drew1) | exact HB.out))) : w.heap.size ≤ gb141)); clear HB; have HB := n0_; have BK141 := n1_; have GW141 := n2_; have GE141 := n3_; clear n0_ n1_ n2_ n3_; clear hb hbox hg; have hcz19_0 : w18.cell? ⟨gb141, 0, none⟩ = some (.int .i64 0) := (blk_cell BK141.out 0).trans rfl; have hcz19_1 : w18.cell? ⟨gb141, 1, none⟩ = some (.int .i64 0) := (blk_cell BK141.out 1).trans rfl; have hcz19_2 : w18.cell? ⟨gb141, 2, none⟩ = some (.string (⟨#[]⟩ : ByteArray)) := (blk_cell BK141.out 2).trans rfl; have hcz19_3 : w18.cell? ⟨gb141, 3, none⟩ = some (.int .i64 0) := (blk_cell BK141.out 3).trans rfl; have hfz19_0 := blk_frozen BK141.out 0; have hfz19_1 := blk_frozen BK141.out 1; have hfz19_2 := blk_frozen BK141.out 2; have hfz19_3 := blk_frozen BK141.out 3) | (go_at_call 30; (with_reducible refine (cotterref07_find.calls k3 _ _ l1 ((rd_T45 ((rd_T40 l0 x7_2).f3) x8_3).f2) t142 t143 t144 true _ ?side1 ?side2 A15.out).mono ?_); (case side1 => exact Kd.C_below HR1.out (by repeat (first | (with_reducible first | exact HB.out | apply below_alloc | apply pw_below_drewN | apply below_drew1 | refine below_set ?_ GE141.out) | exact HB.out))); (case side2 => exact HC1.out); rintro e w20 ⟨rfl, hb⟩; have n0_ := Aside0.mk (blk_below (g := gb141) (o := .cells #[.int .i64 ((rd_T45 ((rd_T40 l0 x7_2).f3) x8_3).f0), .int .i64 ((rd_T45 ((rd_T40 l0 x7_2).f3) x8_3).f1), .string ((rd_T45 ((rd_T40 l0 x7_2).f3) x8_3).f2), .int .i64 ((rd_T45 ((rd_T40 l0 x7_2).f3) x8_3).f3)] 45 (0, 0)) (by (with_reducible repeat (first | refine blk_drewN ?_ _ | refine blk_drew ?_ | refine blk_alloc ?_ _)); refine blk_put (cs := #[.int .i64 ((rd_T45 ((rd_T40 l0 x7_2).f3) x8_3).f0), .int .i64 ((rd_T45 ((rd_T40 l0 x7_2).f3) x8_3).f1), .string ((rd_T45 ((rd_T40 l0 x7_2).f3) x8_3).f2), .int .i64 0]) ?_ 3 _ rfl; (with_reducible repeat (first | refine blk_drewN ?_ _ | refine blk_drew ?_ | refine blk_alloc ?_ _)); refine blk_put (cs := #[.int .i64 ((rd_T45 ((rd_T40 l0 x7_2).f3) x8_3).f0), .int .i64 ((rd_T45 ((rd_T40 l0 x7_2).f3) x8_3).f1), .string (⟨#[]⟩ : ByteArray), .int .i64 0]) ?_ 2 _ rfl; (with_reducible repeat (first | refine blk_drewN ?_ _ | refine blk_drew ?_ | refine blk_alloc ?_ _)); refine blk_put (cs := #[.int .i64 ((rd_T45 ((rd_T40 l0 x7_2).f3) x8_3).f0), .int .i64 0, .string (⟨#[]⟩ : ByteArray), .int .i64 0]) ?_ 1 _ rfl; (with_reducible repeat (first | refine blk_drewN ?_ _ | refine blk_drew ?_ | refine blk_alloc ?_ _)); refine blk_put (cs := #[.int .i64 0, .int .i64 0, .string (⟨#[]⟩ : ByteArray), .int .i64 0]) ?_ 0 _ rfl; (with_reducible repeat (first | refine blk_drewN ?_ _ | refine blk_drew ?_ | refine blk_alloc ?_ _)); exact BK141.out) hb); have n1_ := Aside0.mk (below_step (by repeat (first | (with_reducible first | exact HB.out | apply below_alloc | apply pw_below_drewN | apply below_drew1 | refine below_set ?_ GE141.out) | exact HB.out)) hb); clear BK141; clear HB; have BK141 := n0_; have HB := n1_; clear n0_ n1_; (try clear hb); (try clear hb2); (try clear hk); (try clear hi)) | ((with_reducible refine gate_dst (N := 10) rfl ?_); refine box_event ?hg (N := 10) ?hd (cs := #[.string (⟨#[]⟩ : ByteArray), .int .i64 0, .int .i64 0]) (t := 36) ?hr ?_; (case hd => rfl); (case hg => rfl); (case hr => first | (go_simp; done) | (go_simp; rfl)); intro gb146 hg w21 hbox hb; have n0_ := Aside0.mk (blk_below (g := gb141) (o := .cells #[.int .i64 ((rd_T45 ((rd_T40 l0 x7_2).f3) x8_3).f0), .int .i64 ((rd_T45 ((rd_T40 l0 x7_2).f3) x8_3).f1), .string ((rd_T45 ((rd_T40 l0 x7_2).f3) x8_3).f2), .int .i64 ((rd_T45 ((rd_T40 l0 x7_2).f3) x8_3).f3)] 45 (0, 0)) (by (with_reducible repeat (first | refine blk_drewN ?_ _ | refine blk_drew ?_ | refine blk_alloc ?_ _)); exact BK141.out) hb); have n1_ := Aside0.mk (below_step (by repeat (first | (with_reducible first | exact HB.out | apply below_alloc | apply pw_below_drewN | apply below_drew1 | refine below_set ?_ GE141.out) | exact HB.out)) hb); have n2_ := Aside0.mk (hbox); have n3_ := Aside0.mk ((by rw [hg]; exact (below_size (by repeat (first | (with_reducible first | exact HB.out | apply below_alloc | apply pw_below_drewN | apply below_drew1 | refine below_set ?_ GE141.out) | exact HB.out))) : w.heap.size ≤ gb146)); have n4_ := Aside0.mk ((by rw [hg]; exact (below_size (by repeat (first | (with_reducible first | exact HB.out | apply below_alloc | apply pw_below_drewN | apply below_drew1 | refine below_set ?_ GE141.out) | exact HB.out))) : w.heap.size ≤ gb146)); have n5_ := Aside0.mk ((by rw [hg]; exact Nat.ne_of_lt (blk_lt (g := gb141) (o := .cells #[.int .i64 ((rd_T45 ((rd_T40 l0 x7_2).f3) x8_3).f0), .int .i64 ((rd_T45 ((rd_T40 l0 x7_2).f3) x8_3).f1), .string ((rd_T45 ((rd_T40 l0 x7_2).f3) x8_3).f2), .int .i64 ((rd_T45 ((rd_T40 l0 x7_2).f3) x8_3).f3)] 45 (0, 0)) (by (with_reducible repeat (first | refine blk_drewN ?_ _ | refine blk_drew ?_ | refine blk_alloc ?_ _)); exact BK141.out)) : gb141 ≠ gb146)); have n6_ := Aside0.mk ((by rw [hg]; exact Nat.ne_of_gt (blk_lt (g := gb141) (o := .cells #[.int .i64 ((rd_T45 ((rd_T40 l0 x7_2).f3) x8_3).f0), .int .i64 ((rd_T45 ((rd_T40 l0 x7_2).f3) x8_3).f1), .string ((rd_T45 ((rd_T40 l0 x7_2).f3) x8_3).f2), .int .i64 ((rd_T45 ((rd_T40 l0 x7_2).f3) x8_3).f3)] 45 (0, 0)) (by (with_reducible repeat (first | refine blk_drewN ?_ _ | refine blk_drew ?_ | refine blk_alloc ?_ _)); exact BK141.out)) : gb146 ≠ gb141)); clear BK141; clear HB; have BK141 := n0_; have HB := n1_; have BK146 := n2_; have GW146 := n3_; have GE146 := n4_; have NB141_146 := n5_; have NB146_141 := n6_; clear n0_ n1_ n2_ n3_ n4_ n5_ n6_; clear hb hbox hg; have hnb22 := NB146_141.out; have hnc22 := NB141_146.out; have hcz23_0 : w21.cell? ⟨gb146, 0, none⟩ = some (.string (⟨#[]⟩ : ByteArray)) := (blk_cell BK146.out 0).trans rfl; have hcz23_1 : w21.cell? ⟨gb146, 1, none⟩ = some (.int .i64 0) := (blk_cell BK146.out 1).trans rfl; have hcz23_2 : w21.cell? ⟨gb146, 2, none⟩ = some (.int .i64 0) := (blk_cell BK146.out 2).trans rfl; have hfz23_0 := blk_frozen BK146.out 0; have hfz23_1 := blk_frozen BK146.out 1; have hfz23_2 := blk_frozen BK146.out 2; have hcz24_0 : w21.cell? ⟨gb141, 0, none⟩ = some (.int .i64 ((rd_T45 ((rd_T40 l0 x7_2).f3) x8_3).f0)) := (blk_cell BK141.out 0).trans rfl; have hcz24_1 : w21.cell? ⟨gb141, 1, none⟩ = some (.int .i64 ((rd_T45 ((rd_T40 l0 x7_2).f3) x8_3).f1)) := (blk_cell BK141.out 1).trans rfl; have hcz24_2 : w21.cell? ⟨gb141, 2, none⟩ = some (.string ((rd_T45 ((rd_T40 l0 x7_2).f3) x8_3).f2)) := (blk_cell BK141.out 2).trans rfl; have hcz24_3 : w21.cell? ⟨gb141, 3, none⟩ = some (.int .i64 ((rd_T45 ((rd_T40 l0 x7_2).f3) x8_3).f3)) := (blk_cell BK141.out 3).trans rfl; have hfz24_0 := blk_frozen BK141.out 0; have hfz24_1 := blk_frozen BK141.out 1; have hfz24_2 := blk_frozen BK141.out 2; have hfz24_3 := blk_frozen BK141.out 3)))
                              go_ret
                              exact ⟨by first | rfl | (simp [errW_none, errW_some] <;> rfl) | (simp [*, errW_none, errW_some] <;> rfl), by repeat (first | (with_reducible first | exact HB.out | apply below_alloc | apply pw_below_drewN | apply below_drew1 | refine below_set ?_ GE141.out | refine below_set ?_ GE146.out) | exact HB.out)⟩
                            · rw [if_neg c17] at H
                              have c17b0 : ((t143 == 2) != (((rd_T45 ((rd_T40 l0 x7_2).f3) x8_3).f1) == 2)) = false := by simpa using c17
                              (try (have c17b1 : decide ((t143 == 2) = (((rd_T45 ((rd_T40 l0 x7_2).f3) x8_3).f1) == 2)) = true := by simpa using c17))
                              (try (have c17b2 : ((t143 == 2) == (((rd_T45 ((rd_T40 l0 x7_2).f3) x8_3).f1) == 2)) = true := by simpa using c17))
                              clear c17
                              have H' := Aside0.mk H
                              clear H
                              have p138 : 0 ≤ (x7_2 : Int) := of_decide_eq_true (by first | (with_reducible assumption) | assumption)
                              have q138 : x7_2 < (l0.length : Int) := of_decide_eq_true (by first | (with_reducible assumption) | assumption)
                              obtain ⟨ad138, A138_1, c138_1, A138_2, c138_2, A138_3, c138_3, e138, hx138_0, hx138_1, hx138_2, hx138_3, hl138_1, hi138_1, hl138_2, hi138_2, hl138_3, hi138_3⟩ := at_T40 HR0.out x7_2 p138 q138
                              cases e138
                              replace hx138_0 := (HB.out.cell (World.block_lt_of_cell? w _ hx138_0)).trans hx138_0
                              replace hx138_1 := (HB.out.cell (World.block_lt_of_cell? w _ hx138_1)).trans hx138_1
                              replace hx138_2 := (HB.out.cell (World.block_lt_of_cell? w _ hx138_2)).trans hx138_2
                              replace hx138_3 := (HB.out.cell (World.block_lt_of_cell? w _ hx138_3)).trans hx138_3
                              have HR138_1 := Aside0.mk hi138_1
                              have HC138_1 := Aside0.mk hl138_1
                              clear hi138_1 hl138_1
                              have HR138_2 := Aside0.mk hi138_2
                              have HC138_2 := Aside0.mk hl138_2
                              clear hi138_2 hl138_2
                              have HR138_3 := Aside0.mk hi138_3
                              have HC138_3 := Aside0.mk hl138_3
                              clear hi138_3 hl138_3
                              replace p138 := eq_true p138
                              replace q138 := eq_true q138
                              have p139 : 0 ≤ (x7_2 : Int) := of_decide_eq_true (by first | (with_reducible assumption) | assumption)
                              have q139 : x7_2 < (l0.length : Int) := of_decide_eq_true (by first | (with_reducible assumption) | assumption)
                              obtain ⟨ad139, A139_1, c139_1, A139_2, c139_2, A139_3, c139_3, e139, hx139_0, hx139_1, hx139_2, hx139_3, hl139_1, hi139_1, hl139_2, hi139_2, hl139_3, hi139_3⟩ := at_T40 HR0.out x7_2 p139 q139
                              obtain rfl : ad138 = ad139 := (by injection e139)
                              replace hx139_0 := (HB.out.cell (World.block_lt_of_cell? w _ hx139_0)).trans hx139_0
                              replace hx139_1 := (HB.out.cell (World.block_lt_of_cell? w _ hx139_1)).trans hx139_1
                              replace hx139_2 := (HB.out.cell (World.block_lt_of_cell? w _ hx139_2)).trans hx139_2
                              replace hx139_3 := (HB.out.cell (World.block_lt_of_cell? w _ hx139_3)).trans hx139_3
                              have HR139_1 := Aside0.mk hi139_1
                              have HC139_1 := Aside0.mk hl139_1
                              clear hi139_1 hl139_1
                              have HR139_2 := Aside0.mk hi139_2
                              have HC139_2 := Aside0.mk hl139_2
                              clear hi139_2 hl139_2
                              have HR139_3 := Aside0.mk hi139_3
                              have HC139_3 := Aside0.mk hl139_3
                              clear hi139_3 hl139_3
                              replace p139 := eq_true p139
                              replace q139 := eq_true q139
                              have ea_ := Option.some.inj (hx138_1.symm.trans hx139_1)
                              injection ea_ with ea_ en_ ec_
                              subst ea_
                              subst ec_
                              clear en_
                              have ea_ := Option.some.inj (hx138_2.symm.trans hx139_2)
                              injection ea_ with ea_ en_ ec_
                              subst ea_
                              subst ec_
                              clear en_
                              have ea_ := Option.some.inj (hx138_3.symm.trans hx139_3)
                              injection ea_ with ea_ en_ ec_
                              subst ea_
                              subst ec_
                              clear en_
                              have p140 : 0 ≤ (x8_3 : Int) := of_decide_eq_true (by first | (with_reducible assumption) | assumption)
                              have q140 : x8_3 < (((rd_T40 l0 x7_2).f3).length : Int) := of_decide_eq_true (by first | (with_reducible assumption) | assumption)
                              obtain ⟨ad140, e140, hx140_0, hx140_1, hx140_2, hx140_3⟩ := at_T45 HR139_3.out x8_3 p140 q140
                              cases e140
                              replace hx140_0 := (HB.out.cell (World.block_lt_of_cell? w _ hx140_0)).trans hx140_0
                              replace hx140_1 := (HB.out.cell (World.block_lt_of_cell? w _ hx140_1)).trans hx140_1
                              replace hx140_2 := (HB.out.cell (World.block_lt_of_cell? w _ hx140_2)).trans hx140_2
                              replace hx140_3 := (HB.out.cell (World.block_lt_of_cell? w _ hx140_3)).trans hx140_3
                              replace p140 := eq_true p140
                              replace q140 := eq_true q140
                              go_wp2_with (first | ((with_reducible refine gate_dst (N := 9) rfl ?_); refine box_event ?hg (N := 9) ?hd (cs := #[.int .i64 0, .int .i64 0, .string (⟨#[]⟩ : ByteArray), .int .i64 0]) (t := 45) ?hr ?_; (case hd => rfl); (case hg => rfl); (case hr => first | (go_simp; done) | (go_simp; rfl)); intro gb141 hg w25 hbox hb; have n0_ := Aside0.mk (below_step (by repeat (first | (with_reducible first | exact HB.out | apply below_alloc | apply pw_below_drewN | apply below_drew1) | exact HB.out)) hb); have n1_ := Aside0.mk (hbox); have n2_ := Aside0.mk ((by rw [hg]; exact (below_size (by repeat (first | (with_reducible first | exact HB.out | apply below_alloc | apply pw_below_drewN | apply below_drew1) | exact HB.out))) : w.heap.size ≤ gb141)); have n3_ := Aside0.mk ((by rw [hg]; exact (below_size (by repeat (first | (with_reducible first | exact HB.out | apply below_alloc | apply pw_below_drewN | apply below_drew1) | exact HB.out))) : w.heap.size ≤ gb141)); clear HB; have HB := n0_; have BK141 := n1_; have GW141 := n2_; have GE141 := n3_; clear n0_ n1_ n2_ n3_; clear hb hbox hg; have hcz26_0 : w25.cell? ⟨gb141, 0, none⟩ = some (.int .i64 0) := (blk_cell BK141.out 0).trans rfl; have hcz26_1 : w25.cell? ⟨gb141, 1, none⟩ = some (.int .i64 0) := (blk_cell BK141.out 1).trans rfl; have hcz26_2 : w25.cell? ⟨gb141, 2, none⟩ = some (.string (⟨#[]⟩ : ByteArray)) := (blk_cell BK141.out 2).trans rfl; have hcz26_3 : w25.cell? ⟨gb141, 3, none⟩ = some (.int .i64 0) := (blk_cell BK141.out 3).trans rfl; have hfz26_0 := blk_frozen BK141.out 0; have hfz26_1 := blk_frozen BK141.out 1; have hfz26_2 := blk_frozen BK141.out 2; have hfz26_3 := blk_frozen BK141.out 3) | (go_at_call 30; (with_reducible refine (cotterref07_find.calls k3 _ _ l1 ((rd_T45 ((rd_T40 l0 x7_2).f3) x8_3).f2) t142 t143 t144 true _ ?side1 ?side2 A15.out).mono ?_); (case side1 => exact Kd.C_below HR1.out (by repeat (first | (with_reducible first | exact HB.out | apply below_alloc | apply pw_below_drewN | apply below_drew1 | refine below_set ?_ GE141.out) | exact HB.out))); (case side2 => exact HC1.out); rintro e w27 ⟨rfl, hb⟩; have n0_ := Aside0.mk (blk_below (g := gb141) (o := .cells #[.int .i64 ((rd_T45 ((rd_T40 l0 x7_2).f3) x8_3).f0), .int .i64 ((rd_T45 ((rd_T40 l0 x7_2).f3) x8_3).f1), .string ((rd_T45 ((rd_T40 l0 x7_2).f3) x8_3).f2), .int .i64 ((rd_T45 ((rd_T40 l0 x7_2).f3) x8_3).f3)] 45 (0, 0)) (by (with_reducible repeat (first | refine blk_drewN ?_ _ | refine blk_drew ?_ | refine blk_alloc ?_ _)); refine blk_put (cs := #[.int .i64 ((rd_T45 ((rd_T40 l0 x7_2).f3) x8_3).f0), .int .i64 ((rd_T45 ((rd_T40 l0 x7_2).f3) x8_3).f1), .string ((rd_T45 ((rd_T40 l0 x7_2).f3) x8_3).f2), .int .i64 0]) ?_ 3 _ rfl; (with_reducible repeat (first | refine blk_drewN ?_ _ | refine blk_drew ?_ | refine blk_alloc ?_ _)); refine blk_put (cs := #[.int .i64 ((rd_T45 ((rd_T40 l0 x7_2).f3) x8_3).f0), .int .i64 ((rd_T45 ((rd_T40 l0 x7_2).f3) x8_3).f1), .string (⟨#[]⟩ : ByteArray), .int .i64 0]) ?_ 2 _ rfl; (with_reducible repeat (first | refine blk_drewN ?_ _ | refine blk_drew ?_ | refine blk_alloc ?_ _)); refine blk_put (cs := #[.int .i64 ((rd_T45 ((rd_T40 l0 x7_2).f3) x8_3).f0), .int .i64 0, .string (⟨#[]⟩ : ByteArray), .int .i64 0]) ?_ 1 _ rfl; (with_reducible repeat (first | refine blk_drewN ?_ _ | refine blk_drew ?_ | refine blk_alloc ?_ _)); refine blk_put (cs := #[.int .i64 0, .int .i64 0, .string (⟨#[]⟩ : ByteArray), .int .i64 0]) ?_ 0 _ rfl; (with_reducible repeat (first | refine blk_drewN ?_ _ | refine blk_drew ?_ | refine blk_alloc ?_ _)); exact BK141.out) hb); have n1_ := Aside0.mk (below_step (by repeat (first | (with_reducible first | exact HB.out | apply below_alloc | apply pw_below_drewN | apply below_drew1 | refine below_set ?_ GE141.out) | exact HB.out)) hb); clear BK141; clear HB; have BK141 := n0_; have HB := n1_; clear n0_ n1_; (try clear hb); (try clear hb2); (try clear hk); (try clear hi)) | ((with_reducible refine gate_dst (N := 10) rfl ?_); refine box_event ?hg (N := 10) ?hd (cs := #[.string (⟨#[]⟩ : ByteArray), .int .i64 0, .int .i64 0]) (t := 36) ?hr ?_; (case hd => rfl); (case hg => rfl); (case hr => first | (go_simp; done) | (go_simp; rfl)); intro gb146 hg w28 hbox hb; have n0_ := Aside0.mk (blk_below (g := gb141) (o := .cells #[.int .i64 ((rd_T45 ((rd_T40 l0 x7_2).f3) x8_3).f0), .int .i64 ((rd_T45 ((rd_T40 l0 x7_2).f3) x8_3).f1), .string ((rd_T45 ((rd_T40 l0 x7_2).f3) x8_3).f2), .int .i64 ((rd_T45 ((rd_T40 l0 x7_2).f3) x8_3).f3)] 45 (0, 0)) (by (with_reducible repeat (first | refine blk_drewN ?_ _ | refine blk_drew ?_ | refine blk_alloc ?_ _)); exact BK141.out) hb); have n1_ := Aside0.mk (below_step (by repeat (first | (with_reducible first | exact HB.out | apply below_alloc | apply pw_below_drewN | apply below_drew1 | refine below_set ?_ GE141.out) | exact HB.out)) hb); have n2_ := Aside0.mk (hbox); have n3_ := Aside0.mk ((by rw [hg]; exact (below_size (by repeat (first | (with_reducible first | exact HB.out | apply below_alloc | apply pw_below_drewN | apply below_drew1 | refine below_set ?_ GE141.out) | exact HB.out))) : w.heap.size ≤ gb146)); have n4_ := Aside0.mk ((by rw [hg]; exact (below_size (by repeat (first | (with_reducible first | exact HB.out | apply below_alloc | apply pw_below_drewN | apply below_drew1 | refine below_set ?_ GE141.out) | exact HB.out))) : w.heap.size ≤ gb146)); have n5_ := Aside0.mk ((by rw [hg]; exact Nat.ne_of_lt (blk_lt (g := gb141) (o := .cells #[.int .i64 ((rd_T45 ((rd_T40 l0 x7_2).f3) x8_3).f0), .int .i64 ((rd_T45 ((rd_T40 l0 x7_2).f3) x8_3).f1), .string ((rd_T45 ((rd_T40 l0 x7_2).f3) x8_3).f2), .int .i64 ((rd_T45 ((rd_T40 l0 x7_2).f3) x8_3).f3)] 45 (0, 0)) (by (with_reducible repeat (first | refine blk_drewN ?_ _ | refine blk_drew ?_ | refine blk_alloc ?_ _)); exact BK141.out)) : gb141 ≠ gb146)); have n6_ := Aside0.mk ((by rw [hg]; exact Nat.ne_of_gt (blk_lt (g := gb141) (o := .cells #[.int .i64 ((rd_T45 ((rd_T40 l0 x7_2).f3) x8_3).f0), .int .i64 ((rd_T45 ((rd_T40 l0 x7_2).f3) x8_3).f1), .string ((rd_T45 ((rd_T40 l0 x7_2).f3) x8_3).f2), .int .i64 ((rd_T45 ((rd_T40 l0 x7_2).f3) x8_3).f3)] 45 (0, 0)) (by (with_reducible repeat (first | refine blk_drewN ?_ _ | refine blk_drew ?_ | refine blk_alloc ?_ _)); exact BK141.out)) : gb146 ≠ gb141)); clear BK141; clear HB; have BK141 := n0_; have HB := n1_; have BK146 := n2_; have GW146 := n3_; have GE146 := n4_; have NB141_146 := n5_; have NB146_141 := n6_; clear n0_ n1_ n2_ n3_ n4_ n5_ n6_; clear hb hbox hg; have hnb29 := NB146_141.out; have hnc29 := NB141_146.out; have hcz30_0 : w28.cell? ⟨gb146, 0, none⟩ = some (.string (⟨#[]⟩ : ByteArray)) := (blk_cell BK146.out 0).trans rfl; have hcz30_1 : w28.cell? ⟨gb146, 1, none⟩ = some (.int .i64 0) := (blk_cell BK146.out 1).trans rfl; have hcz30_2 : w28.cell? ⟨gb146, 2, none⟩ = some (.int .i64 0) := (blk_cell BK146.out 2).trans rfl; have hfz30_0 := blk_frozen BK146.out 0; have hfz30_1 := blk_frozen BK146.out 1; have hfz30_2 := blk_frozen BK146.out 2; have hcz31_0 : w28.cell? ⟨gb141, 0, none⟩ = some (.int .i64 ((rd_T45 ((rd_T40 l0 x7_2).f3) x8_3).f0)) := (blk_cell BK141.out 0).trans rfl; have hcz31_1 : w28.cell? ⟨gb141, 1, none⟩ = some (.int .i64 ((rd_T45 ((rd_T40 l0 x7_2).f3) x8_3).f1)) := (blk_cell BK141.out 1).trans rfl; have hcz31_2 : w28.cell? ⟨gb141, 2, none⟩ = some (.string ((rd_T45 ((rd_T40 l0 x7_2).f3) x8_3).f2)) := (blk_cell BK141.out 2).trans rfl; have hcz31_3 : w28.cell? ⟨gb141, 3, none⟩ = some (.int .i64 ((rd_T45 ((rd_T40 l0 x7_2).f3) x8_3).f3)) := (blk_cell BK141.out 3).trans rfl; have hfz31_0 := blk_frozen BK141.out 0; have hfz31_1 := blk_frozen BK141.out 1; have hfz31_2 := blk_frozen BK141.out 2; have hfz31_3 := blk_frozen BK141.out 3))
                              repeat (go_quiet (first | ((with_reducible refine gate_dst (N := 9) rfl ?_); refine box_event ?hg (N := 9) ?hd (cs := #[.int .i64 0, .int .i64 0, .string (⟨#[]⟩ : ByteArray), .int .i64 0]) (t := 45) ?hr ?_; (case hd => rfl); (case hg => rfl); (case hr => first | (go_simp; done) | (go_simp; rfl)); intro gb141 hg w25 hbox hb; have n0_ := Aside0.mk (below_step (by repeat (first | (with_reducible first | exact HB.out | apply below_alloc | apply pw_below_drewN | apply below_drew1) | exact HB.out)) hb); have n1_ := Aside0.mk (hbox); have n2_ := Aside0.mk ((by rw [hg]; exact (below_size (by repeat (first | (with_reducible first | exact HB.out | apply below_alloc | apply pw_below_drewN | apply below_drew1) | exact HB.out))) : w.heap.size ≤ gb141)); have n3_ := Aside0.mk ((by rw [hg]; exact (below_size (by repeat (first | (with_reducible first | exact HB.out | apply below_alloc | apply pw_below_drewN | apply below_drew1) | exact HB.out))) : w.heap.size ≤ gb141)); clear HB; have HB := n0_; have BK141 := n1_; have GW141 := n2_; have GE141 := n3_; clear n0_ n1_ n2_ n3_; clear hb hbox hg; have hcz26_0 : w25.cell? ⟨gb141, 0, none⟩ = some (.int .i64 0) := (blk_cell BK141.out 0).trans rfl; have hcz26_1 : w25.cell? ⟨gb141, 1, none⟩ = some (.int .i64 0) := (blk_cell BK141.out 1).trans rfl; have hcz26_2 : w25.cell? ⟨gb141, 2, none⟩ = some (.string (⟨#[]⟩ : ByteArray)) := (blk_cell BK141.out 2).trans rfl; have hcz26_3 : w25.cell? ⟨gb141, 3, none⟩ = some (.int .i64 0) := (blk_cell BK141.out 3).trans rfl; have hfz26_0 := blk_frozen BK141.out 0; have hfz26_1 := blk_frozen BK141.out 1; have hfz26_2 := blk_frozen BK141.out 2; have hfz26_3 := blk_frozen BK141.out 3) | (go_at_call 30; (with_reducible refine (cotterref07_find.calls k3 _ _ l1 ((rd_T45 ((rd_T40 l0 x7_2).f3) x8_3).f2) t142 t143 t144 true _ ?side1 ?side2 A15.out).mono ?_); (case side1 => exact Kd.C_below HR1.out (by repeat (first | (with_reducible first | exact HB.out | apply below_alloc | apply pw_below_drewN | apply below_drew1 | refine below_set ?_ GE141.out) | exact HB.out))); (case side2 => exact HC1.out); rintro e w27 ⟨rfl, hb⟩; have n0_ := Aside0.mk (blk_below (g := gb141) (o := .cells #[.int .i64 ((rd_T45 ((rd_T40 l0 x7_2).f3) x8_3).f0), .int .i64 ((rd_T45 ((rd_T40 l0 x7_2).f3) x8_3).f1), .string ((rd_T45 ((rd_T40 l0 x7_2).f3) x8_3).f2), .int .i64 ((rd_T45 ((rd_T40 l0 x7_2).f3) x8_3).f3)] 45 (0, 0)) (by (with_reducible repeat (first | refine blk_drewN ?_ _ | refine blk_drew ?_ | refine blk_alloc ?_ _)); refine blk_put (cs := #[.int .i64 ((rd_T45 ((rd_T40 l0 x7_2).f3) x8_3).f0), .int .i64 ((rd_T45 ((rd_T40 l0 x7_2).f3) x8_3).f1), .string ((rd_T45 ((rd_T40 l0 x7_2).f3) x8_3).f2), .int .i64 0]) ?_ 3 _ rfl; (with_reducible repeat (first | refine blk_drewN ?_ _ | refine blk_drew ?_ | refine blk_alloc ?_ _)); refine blk_put (cs := #[.int .i64 ((rd_T45 ((rd_T40 l0 x7_2).f3) x8_3).f0), .int .i64 ((rd_T45 ((rd_T40 l0 x7_2).f3) x8_3).f1), .string (⟨#[]⟩ : ByteArray), .int .i64 0]) ?_ 2 _ rfl; (with_reducible repeat (first | refine blk_drewN ?_ _ | refine blk_drew ?_ | refine blk_alloc ?_ _)); refine blk_put (cs := #[.int .i64 ((rd_T45 ((rd_T40 l0 x7_2).f3) x8_3).f0), .int .i64 0, .string (⟨#[]⟩ : ByteArray), .int .i64 0]) ?_ 1 _ rfl; (with_reducible repeat (first | refine blk_drewN ?_ _ | refine blk_drew ?_ | refine blk_alloc ?_ _)); refine blk_put (cs := #[.int .i64 0, .int .i64 0, .string (⟨#[]⟩ : ByteArray), .int .i64 0]) ?_ 0 _ rfl; (with_reducible repeat (first | refine blk_drewN ?_ _ | refine blk_drew ?_ | refine blk_alloc ?_ _)); exact BK141.out) hb); have n1_ := Aside0.mk (below_step (by repeat (first | (with_reducible first | exact HB.out | apply below_alloc | apply pw_below_drewN | apply below_drew1 | refine below_set ?_ GE141.out) | exact HB.out)) hb); clear BK141; clear HB; have BK141 := n0_; have HB := n1_; clear n0_ n1_; (try clear hb); (try clear hb2); (try clear hk); (try clear hi)) | ((with_reducible refine gate_dst (N := 10) rfl ?_); refine box_event ?hg (N := 10) ?hd (cs := #[.string (⟨#[]⟩ : ByteArray), .int .i64 0, .int .i64 0]) (t := 36) ?hr ?_; (case hd => rfl); (case hg => rfl); (case hr => first | (go_simp; done) | (go_simp; rfl)); intro gb146 hg w28 hbox hb; have n0_ := Aside0.mk (blk_below (g := gb141) (o := .cells #[.int .i64 ((rd_T45 ((rd_T40 l0 x7_2).f3) x8_3).f0), .int .i64 ((rd_T45 ((rd_T40 l0 x7_2).f3) x8_3).f1), .string ((rd_T45 ((rd_T40 l0 x7_2).f3) x8_3).f2), .int .i64 ((rd_T45 ((rd_T40 l0 x7_2).f3) x8_3).f3)] 45 (0, 0)) (by (with_reducible repeat (first | refine blk_drewN ?_ _ | refine blk_drew ?_ | refine blk_alloc ?_ _)); exact BK141.out) hb); have n1_ := Aside0.mk (below_step (by repeat (first | (with_reducible first | exact HB.out | apply below_alloc | apply pw_below_drewN | apply below_drew1 | refine below_set ?_ GE141.out) | exact HB.out)) hb); have n2_ := Aside0.mk (hbox); have n3_ := Aside0.mk ((by rw [hg]; exact (below_size (by repeat (first | (with_reducible first | exact HB.out | apply below_alloc | apply pw_below_drewN | apply below_drew1 | refine below_set ?_ GE141.out) | exact HB.out))) : w.heap.size ≤ gb146)); have n4_ := Aside0.mk ((by rw [hg]; exact (below_size (by repeat (first | (with_reducible first | exact HB.out | apply below_alloc | apply pw_below_drewN | apply below_drew1 | refine below_set ?_ GE141.out) | exact HB.out))) : w.heap.size ≤ gb146)); have n5_ := Aside0.mk ((by rw [hg]; exact Nat.ne_of_lt (blk_lt (g := gb141) (o := .cells #[.int .i64 ((rd_T45 ((rd_T40 l0 x7_2).f3) x8_3).f0), .int .i64 ((rd_T45 ((rd_T40 l0 x7_2).f3) x8_3).f1), .string ((rd_T45 ((rd_T40 l0 x7_2).f3) x8_3).f2), .int .i64 ((rd_T45 ((rd_T40 l0 x7_2).f3) x8_3).f3)] 45 (0, 0)) (by (with_reducible repeat (first | refine blk_drewN ?_ _ | refine blk_drew ?_ | refine blk_alloc ?_ _)); exact BK141.out)) : gb141 ≠ gb146)); have n6_ := Aside0.mk ((by rw [hg]; exact Nat.ne_of_gt (blk_lt (g := gb141) (o := .cells #[.int .i64 ((rd_T45 ((rd_T40 l0 x7_2).f3) x8_3).f0), .int .i64 ((rd_T45 ((rd_T40 l0 x7_2).f3) x8_3).f1), .string ((rd_T45 ((rd_T40 l0 x7_2).f3) x8_3).f2), .int .i64 ((rd_T45 ((rd_T40 l0 x7_2).f3) x8_3).f3)] 45 (0, 0)) (by (with_reducible repeat (first | refine blk_drewN ?_ _ | refine blk_drew ?_ | refine blk_alloc ?_ _)); exact BK141.out)) : gb146 ≠ gb141)); clear BK141; clear HB; have BK141 := n0_; have HB := n1_; have BK146 := n2_; have GW146 := n3_; have GE146 := n4_; have NB141_146 := n5_; have NB146_141 := n6_; clear n0_ n1_ n2_ n3_ n4_ n5_ n6_; clear hb hbox hg; have hnb29 := NB146_141.out; have hnc29 := NB141_146.out; have hcz30_0 : w28.cell? ⟨gb146, 0, none⟩ = some (.string (⟨#[]⟩ : ByteArray)) := (blk_cell BK146.out 0).trans rfl; have hcz30_1 : w28.cell? ⟨gb146, 1, none⟩ = some (.int .i64 0) := (blk_cell BK146.out 1).trans rfl; have hcz30_2 : w28.cell? ⟨gb146, 2, none⟩ = some (.int .i64 0) := (blk_cell BK146.out 2).trans rfl; have hfz30_0 := blk_frozen BK146.out 0; have hfz30_1 := blk_frozen BK146.out 1; have hfz30_2 := blk_frozen BK146.out 2; have hcz31_0 : w28.cell? ⟨gb141, 0, none⟩ = some (.int .i64 ((rd_T45 ((rd_T40 l0 x7_2).f3) x8_3).f0)) := (blk_cell BK141.out 0).trans rfl; have hcz31_1 : w28.cell? ⟨gb141, 1, none⟩ = some (.int .i64 ((rd_T45 ((rd_T40 l0 x7_2).f3) x8_3).f1)) := (blk_cell BK141.out 1).trans rfl; have hcz31_2 : w28.cell? ⟨gb141, 2, none⟩ = some (.string ((rd_T45 ((rd_T40 l0 x7_2).f3) x8_3).f2)) := (blk_cell BK141.out 2).trans rfl; have hcz31_3 : w28.cell? ⟨gb141, 3, none⟩ = some (.int .i64 ((rd_T45 ((rd_T40 l0 x7_2).f3) x8_3).f3)) := (blk_cell BK141.out 3).trans rfl; have hfz31_0 := blk_frozen BK141.out 0; have hfz31_1 := blk_frozen BK141.out 1; have hfz31_2 := blk_frozen BK141.out 2; have hfz31_3 := blk_frozen BK141.out 3)); try go_wp2_with (first | ((with_reducible refine gate_dst (N := 9) rfl ?_); refine box_event ?hg (N := 9) ?hd (cs := #[.int .i64 0, .int .i64 0, .string (⟨#[]⟩ : ByteArray), .int .i64 0]) (t := 45) ?hr ?_; (case hd => rfl); (case hg => rfl); (case hr => first | (go_simp; done) | (go_simp; rfl)); intro gb141 hg w25 hbox hb; have n0_ := Aside0.mk (below_step (by repeat (first | (with_reducible first | exact HB.out | apply below_alloc | apply pw_below_drewN | apply below_drew1) | exact HB.out)) hb); have n1_ := Aside0.mk (hbox); have n2_ := Aside0.mk ((by rw [hg]; exact (below_size (by repeat (first | (with_reducible first | exact HB.out | apply below_alloc | apply pw_below_drewN | apply below_drew1) | exact HB.out))) : w.heap.size ≤ gb141)); have n3_ := Aside0.mk ((by rw [hg]; exact (below_size (by repeat (first | (with_reducible first | exact HB.out | apply below_alloc | apply pw_below_drewN | apply below_drew1) | exact HB.out))) : w.heap.size ≤ gb141)); clear HB; have HB := n0_; have BK141 := n1_; have GW141 := n2_; have GE141 := n3_; clear n0_ n1_ n2_ n3_; clear hb hbox hg; have hcz26_0 : w25.cell? ⟨gb141, 0, none⟩ = some (.int .i64 0) := (blk_cell BK141.out 0).trans rfl; have hcz26_1 : w25.cell? ⟨gb141, 1, none⟩ = some (.int .i64 0) := (blk_cell BK141.out 1).trans rfl; have hcz26_2 : w25.cell? ⟨gb141, 2, none⟩ = some (.string (⟨#[]⟩ : ByteArray)) := (blk_cell BK141.out 2).trans rfl; have hcz26_3 : w25.cell? ⟨gb141, 3, none⟩ = some (.int .i64 0) := (blk_cell BK141.out 3).trans rfl; have hfz26_0 := blk_frozen BK141.out 0; have hfz26_1 := blk_frozen BK141.out 1; have hfz26_2 := blk_frozen BK141.out 2; have hfz26_3 := blk_frozen BK141.out 3) | (go_at_call 30; (with_reducible refine (cotterref07_find.calls k3 _ _ l1 ((rd_T45 ((rd_T40 l0 x7_2).f3) x8_3).f2) t142 t143 t144 true _ ?side1 ?side2 A15.out).mono ?_); (case side1 => exact Kd.C_below HR1.out (by repeat (first | (with_reducible first | exact HB.out | apply below_alloc | apply pw_below_drewN | apply below_drew1 | refine below_set ?_ GE141.out) | exact HB.out))); (case side2 => exact HC1.out); rintro e w27 ⟨rfl, hb⟩; have n0_ := Aside0.mk (blk_below (g := gb141) (o := .cells #[.int .i64 ((rd_T45 ((rd_T40 l0 x7_2).f3) x8_3).f0), .int .i64 ((rd_T45 ((rd_T40 l0 x7_2).f3) x8_3).f1), .string ((rd_T45 ((rd_T40 l0 x7_2).f3) x8_3).f2), .int .i64 ((rd_T45 ((rd_T40 l0 x7_2).f3) x8_3).f3)] 45 (0, 0)) (by (with_reducible repeat (first | refine blk_drewN ?_ _ | refine blk_drew ?_ | refine blk_alloc ?_ _)); refine blk_put (cs := #[.int .i64 ((rd_T45 ((rd_T40 l0 x7_2).f3) x8_3).f0), .int .i64 ((rd_T45 ((rd_T40 l0 x7_2).f3) x8_3).f1), .string ((rd_T45 ((rd_T40 l0 x7_2).f3) x8_3).f2), .int .i64 0]) ?_ 3 _ rfl; (with_reducible repeat (first | refine blk_drewN ?_ _ | refine blk_drew ?_ | refine blk_alloc ?_ _)); refine blk_put (cs := #[.int .i64 ((rd_T45 ((rd_T40 l0 x7_2).f3) x8_3).f0), .int .i64 ((rd_T45 ((rd_T40 l0 x7_2).f3) x8_3).f1), .string (⟨#[]⟩ : ByteArray), .int .i64 0]) ?_ 2 _ rfl; (with_reducible repeat (first | refine blk_drewN ?_ _ | refine blk_drew ?_ | refine blk_alloc ?_ _)); refine blk_put (cs := #[.int .i64 ((rd_T45 ((rd_T40 l0 x7_2).f3) x8_3).f0), .int .i64 0, .string (⟨#[]⟩ : ByteArray), .int .i64 0]) ?_ 1 _ rfl; (with_reducible repeat (first | refine blk_drewN ?_ _ | refine blk_drew ?_ | refine blk_alloc ?_ _)); refine blk_put (cs := #[.int .i64 0, .int .i64 0, .string (⟨#[]⟩ : ByteArray), .int .i64 0]) ?_ 0 _ rfl; (with_reducible repeat (first | refine blk_drewN ?_ _ | refine blk_drew ?_ | refine blk_alloc ?_ _)); exact BK141.out) hb); have n1_ := Aside0.mk (below_step (by repeat (first | (with_reducible first | exact HB.out | apply below_alloc | apply pw_below_drewN | apply below_drew1 | refine below_set ?_ GE141.out) | exact HB.out)) hb); clear BK141; clear HB; have BK141 := n0_; have HB := n1_; clear n0_ n1_; (try clear hb); (try clear hb2); (try clear hk); (try clear hi)) | ((with_reducible refine gate_dst (N := 10) rfl ?_); refine box_event ?hg (N := 10) ?hd (cs := #[.string (⟨#[]⟩ : ByteArray), .int .i64 0, .int .i64 0]) (t := 36) ?hr ?_; (case hd => rfl); (case hg => rfl); (case hr => first | (go_simp; done) | (go_simp; rfl)); intro gb146 hg w28 hbox hb; have n0_ := Aside0.mk (blk_below (g := gb141) (o := .cells #[.int .i64 ((rd_T45 ((rd_T40 l0 x7_2).f3) x8_3).f0), .int .i64 ((rd_T45 ((rd_T40 l0 x7_2).f3) x8_3).f1), .string ((rd_T45 ((rd_T40 l0 x7_2).f3) x8_3).f2), .int .i64 ((rd_T45 ((rd_T40 l0 x7_2).f3) x8_3).f3)] 45 (0, 0)) (by (with_reducible repeat (first | refine blk_drewN ?_ _ | refine blk_drew ?_ | refine blk_alloc ?_ _)); exact BK141.out) hb); have n1_ := Aside0.mk (below_step (by repeat (first | (with_reducible first | exact HB.out | apply below_alloc | apply pw_below_drewN | apply below_drew1 | refine below_set ?_ GE141.out) | exact HB.out)) hb); have n2_ := Aside0.mk (hbox); have n3_ := Aside0.mk ((by rw [hg]; exact (below_size (by repeat (first | (with_reducible first | exact HB.out | apply below_alloc | apply pw_below_drewN | apply below_drew1 | refine below_set ?_ GE141.out) | exact HB.out))) : w.heap.size ≤ gb146)); have n4_ := Aside0.mk ((by rw [hg]; exact (below_size (by repeat (first | (with_reducible first | exact HB.out | apply below_alloc | apply pw_below_drewN | apply below_drew1 | refine below_set ?_ GE141.out) | exact HB.out))) : w.heap.size ≤ gb146)); have n5_ := Aside0.mk ((by rw [hg]; exact Nat.ne_of_lt (blk_lt (g := gb141) (o := .cells #[.int .i64 ((rd_T45 ((rd_T40 l0 x7_2).f3) x8_3).f0), .int .i64 ((rd_T45 ((rd_T40 l0 x7_2).f3) x8_3).f1), .string ((rd_T45 ((rd_T40 l0 x7_2).f3) x8_3).f2), .int .i64 ((rd_T45 ((rd_T40 l0 x7_2).f3) x8_3).f3)] 45 (0, 0)) (by (with_reducible repeat (first | refine blk_drewN ?_ _ | refine blk_drew ?_ | refine blk_alloc ?_ _)); exact BK141.out)) : gb141 ≠ gb146)); have n6_ := Aside0.mk ((by rw [hg]; exact Nat.ne_of_gt (blk_lt (g := gb141) (o := .cells #[.int .i64 ((rd_T45 ((rd_T40 l0 x7_2).f3) x8_3).f0), .int .i64 ((rd_T45 ((rd_T40 l0 x7_2).f3) x8_3).f1), .string ((rd_T45 ((rd_T40 l0 x7_2).f3) x8_3).f2), .int .i64 ((rd_T45 ((rd_T40 l0 x7_2).f3) x8_3).f3)] 45 (0, 0)) (by (with_reducible repeat (first | refine blk_drewN ?_ _ | refine blk_drew ?_ | refine blk_alloc ?_ _)); exact BK141.out)) : gb146 ≠ gb141)); clear BK141; clear HB; have BK141 := n0_; have HB := n1_; have BK146 := n2_; have GW146 := n3_; have GE146 := n4_; have NB141_146 := n5_; have NB146_141 := n6_; clear n0_ n1_ n2_ n3_ n4_ n5_ n6_; clear hb hbox hg; have hnb29 := NB146_141.out; have hnc29 := NB141_146.out; have hcz30_0 : w28.cell? ⟨gb146, 0, none⟩ = some (.string (⟨#[]⟩ : ByteArray)) := (blk_cell BK146.out 0).trans rfl; have hcz30_1 : w28.cell? ⟨gb146, 1, none⟩ = some (.int .i64 0) := (blk_cell BK146.out 1).trans rfl; have hcz30_2 : w28.cell? ⟨gb146, 2, none⟩ = some (.int .i64 0) := (blk_cell BK146.out 2).trans rfl; have hfz30_0 := blk_frozen BK146.out 0; have hfz30_1 := blk_frozen BK146.out 1; have hfz30_2 := blk_frozen BK146.out 2; have hcz31_0 : w28.cell? ⟨gb141, 0, none⟩ = some (.int .i64 ((rd_T45 ((rd_T40 l0 x7_2).f3) x8_3).f0)) := (blk_cell BK141.out 0).trans rfl; have hcz31_1 : w28.cell? ⟨gb141, 1, none⟩ = some (.int .i64 ((rd_T45 ((rd_T40 l0 x7_2).f3) x8_3).f1)) := (blk_cell BK141.out 1).trans rfl; have hcz31_2 : w28.cell? ⟨gb141, 2, none⟩ = some (.string ((rd_T45 ((rd_T40 l0 x7_2).f3) x8_3).f2)) := (blk_cell BK141.out 2).trans rfl; have hcz31_3 : w28.cell? ⟨gb141, 3, none⟩ = some (.int .i64 ((rd_T45 ((rd_T40 l0 x7_2).f3) x8_3).f3)) := (blk_cell BK141.out 3).trans rfl; have hfz31_0 := blk_frozen BK141.out 0; have hfz31_1 := blk_frozen BK141.out 1; have hfz31_2 := blk_frozen BK141.out 2; have hfz31_3 := blk_frozen BK141.out 3)))
                              go_roundg k3
                              case measure => have := HK1.out; have := HK2.out; have := HK3.out; omega
                              case rel => exact ⟨(wrap64 (x8_3 + 1)), (by first | rfl | (simp; done) | (simp [*]; done)), H', ⟨by have := HK1.out; have := HK2.out; have := HK3.out; omega⟩, ⟨by repeat (first | (with_reducible first | exact HB.out | apply below_alloc | apply pw_below_drewN | apply below_drew1 | refine below_set ?_ GE141.out | refine below_set ?_ GE146.out) | exact HB.out)⟩⟩
                          · replace c16 := Bool.eq_false_iff.mpr c16
                            subst c16
                            have H1 : (some 6) = some r := by rw [if_neg (show ¬ (false = true) by decide)] at H; exact H
                            clear H
                            have H := H1
                            clear H1
                            obtain rfl := Option.some.inj H
                            have p138 : 0 ≤ (x7_2 : Int) := of_decide_eq_true (by first | (with_reducible assumption) | assumption)
                            have q138 : x7_2 < (l0.length : Int) := of_decide_eq_true (by first | (with_reducible assumption) | assumption)
                            obtain ⟨ad138, A138_1, c138_1, A138_2, c138_2, A138_3, c138_3, e138, hx138_0, hx138_1, hx138_2, hx138_3, hl138_1, hi138_1, hl138_2, hi138_2, hl138_3, hi138_3⟩ := at_T40 HR0.out x7_2 p138 q138
                            cases e138
                            replace hx138_0 := (HB.out.cell (World.block_lt_of_cell? w _ hx138_0)).trans hx138_0
                            replace hx138_1 := (HB.out.cell (World.block_lt_of_cell? w _ hx138_1)).trans hx138_1
                            replace hx138_2 := (HB.out.cell (World.block_lt_of_cell? w _ hx138_2)).trans hx138_2
                            replace hx138_3 := (HB.out.cell (World.block_lt_of_cell? w _ hx138_3)).trans hx138_3
                            have HR138_1 := Aside0.mk hi138_1
                            have HC138_1 := Aside0.mk hl138_1
                            clear hi138_1 hl138_1
                            have HR138_2 := Aside0.mk hi138_2
                            have HC138_2 := Aside0.mk hl138_2
                            clear hi138_2 hl138_2
                            have HR138_3 := Aside0.mk hi138_3
                            have HC138_3 := Aside0.mk hl138_3
                            clear hi138_3 hl138_3
                            replace p138 := eq_true p138
                            replace q138 := eq_true q138
                            have p139 : 0 ≤ (x7_2 : Int) := of_decide_eq_true (by first | (with_reducible assumption) | assumption)
                            have q139 : x7_2 < (l0.length : Int) := of_decide_eq_true (by first | (with_reducible assumption) | assumption)
                            obtain ⟨ad139, A139_1, c139_1, A139_2, c139_2, A139_3, c139_3, e139, hx139_0, hx139_1, hx139_2, hx139_3, hl139_1, hi139_1, hl139_2, hi139_2, hl139_3, hi139_3⟩ := at_T40 HR0.out x7_2 p139 q139
                            obtain rfl : ad138 = ad139 := (by injection e139)
                            replace hx139_0 := (HB.out.cell (World.block_lt_of_cell? w _ hx139_0)).trans hx139_0
                            replace hx139_1 := (HB.out.cell (World.block_lt_of_cell? w _ hx139_1)).trans hx139_1
                            replace hx139_2 := (HB.out.cell (World.block_lt_of_cell? w _ hx139_2)).trans hx139_2
                            replace hx139_3 := (HB.out.cell (World.block_lt_of_cell? w _ hx139_3)).trans hx139_3
                            have HR139_1 := Aside0.mk hi139_1
                            have HC139_1 := Aside0.mk hl139_1
                            clear hi139_1 hl139_1
                            have HR139_2 := Aside0.mk hi139_2
                            have HC139_2 := Aside0.mk hl139_2
                            clear hi139_2 hl139_2
                            have HR139_3 := Aside0.mk hi139_3
                            have HC139_3 := Aside0.mk hl139_3
                            clear hi139_3 hl139_3
                            replace p139 := eq_true p139
                            replace q139 := eq_true q139
                            have ea_ := Option.some.inj (hx138_1.symm.trans hx139_1)
                            injection ea_ with ea_ en_ ec_
                            subst ea_
                            subst ec_
                            clear en_
                            have ea_ := Option.some.inj (hx138_2.symm.trans hx139_2)
                            injection ea_ with ea_ en_ ec_
                            subst ea_
                            subst ec_
                            clear en_
                            have ea_ := Option.some.inj (hx138_3.symm.trans hx139_3)
                            injection ea_ with ea_ en_ ec_
                            subst ea_
                            subst ec_
                            clear en_
                            have p140 : 0 ≤ (x8_3 : Int) := of_decide_eq_true (by first | (with_reducible assumption) | assumption)
                            have q140 : x8_3 < (((rd_T40 l0 x7_2).f3).length : Int) := of_decide_eq_true (by first | (with_reducible assumption) | assumption)
                            obtain ⟨ad140, e140, hx140_0, hx140_1, hx140_2, hx140_3⟩ := at_T45 HR139_3.out x8_3 p140 q140
                            cases e140
                            replace hx140_0 := (HB.out.cell (World.block_lt_of_cell? w _ hx140_0)).trans hx140_0
                            replace hx140_1 := (HB.out.cell (World.block_lt_of_cell? w _ hx140_1)).trans hx140_1
                            replace hx140_2 := (HB.out.cell (World.block_lt_of_cell? w _ hx140_2)).trans hx140_2
                            replace hx140_3 := (HB.out.cell (World.block_lt_of_cell? w _ hx140_3)).trans hx140_3
                            replace p140 := eq_true p140
                            replace q140 := eq_true q140
                            go_wp2_with (first | ((with_reducible refine gate_dst (N := 9) rfl ?_); refine box_event ?hg (N := 9) ?hd (cs := #[.int .i64 0, .int .i64 0, .string (⟨#[]⟩ : ByteArray), .int .i64 0]) (t := 45) ?hr ?_; (case hd => rfl); (case hg => rfl); (case hr => first | (go_simp; done) | (go_simp; rfl)); intro gb141 hg w32 hbox hb; have n0_ := Aside0.mk (below_step (by repeat (first | (with_reducible first | exact HB.out | apply below_alloc | apply pw_below_drewN | apply below_drew1) | exact HB.out)) hb); have n1_ := Aside0.mk (hbox); have n2_ := Aside0.mk ((by rw [hg]; exact (below_size (by repeat (first | (with_reducible first | exact HB.out | apply below_alloc | apply pw_below_drewN | apply below_drew1) | exact HB.out))) : w.heap.size ≤ gb141)); have n3_ := Aside0.mk ((by rw [hg]; exact (below_size (by repeat (first | (with_reducible first | exact HB.out | apply below_alloc | apply pw_below_drewN | apply below_drew1) | exact HB.out))) : w.heap.size ≤ gb141)); clear HB; have HB := n0_; have BK141 := n1_; have GW141 := n2_; have GE141 := n3_; clear n0_ n1_ n2_ n3_; clear hb hbox hg; have hcz33_0 : w32.cell? ⟨gb141, 0, none⟩ = some (.int .i64 0) := (blk_cell BK141.out 0).trans rfl; have hcz33_1 : w32.cell? ⟨gb141, 1, none⟩ = some (.int .i64 0) := (blk_cell BK141.out 1).trans rfl; have hcz33_2 : w32.cell? ⟨gb141, 2, none⟩ = some (.string (⟨#[]⟩ : ByteArray)) := (blk_cell BK141.out 2).trans rfl; have hcz33_3 : w32.cell? ⟨gb141, 3, none⟩ = some (.int .i64 0) := (blk_cell BK141.out 3).trans rfl; have hfz33_0 := blk_frozen BK141.out 0; have hfz33_1 := blk_frozen BK141.out 1; have hfz33_2 := blk_frozen BK141.out 2; have hfz33_3 := blk_frozen BK141.out 3) | (go_at_call 30; (with_reducible refine (cotterref07_find.calls k3 _ _ l1 ((rd_T45 ((rd_T40 l0 x7_2).f3) x8_3).f2) t142 t143 t144 false _ ?side1 ?side2 A15.out).mono ?_); (case side1 => exact Kd.C_below HR1.out (by repeat (first | (with_reducible first | exact HB.out | apply below_alloc | apply pw_below_drewN | apply below_drew1 | refine below_set ?_ GE141.out) | exact HB.out))); (case side2 => exact HC1.out); rintro e w34 ⟨rfl, hb⟩; have n0_ := Aside0.mk (blk_below (g := gb141) (o := .cells #[.int .i64 ((rd_T45 ((rd_T40 l0 x7_2).f3) x8_3).f0), .int .i64 ((rd_T45 ((rd_T40 l0 x7_2).f3) x8_3).f1), .string ((rd_T45 ((rd_T40 l0 x7_2).f3) x8_3).f2), .int .i64 ((rd_T45 ((rd_T40 l0 x7_2).f3) x8_3).f3)] 45 (0, 0)) (by (with_reducible repeat (first | refine blk_drewN ?_ _ | refine blk_drew ?_ | refine blk_alloc ?_ _)); refine blk_put (cs := #[.int .i64 ((rd_T45 ((rd_T40 l0 x7_2).f3) x8_3).f0), .int .i64 ((rd_T45 ((rd_T40 l0 x7_2).f3) x8_3).f1), .string ((rd_T45 ((rd_T40 l0 x7_2).f3) x8_3).f2), .int .i64 0]) ?_ 3 _ rfl; (with_reducible repeat (first | refine blk_drewN ?_ _ | refine blk_drew ?_ | refine blk_alloc ?_ _)); refine blk_put (cs := #[.int .i64 ((rd_T45 ((rd_T40 l0 x7_2).f3) x8_3).f0), .int .i64 ((rd_T45 ((rd_T40 l0 x7_2).f3) x8_3).f1), .string (⟨#[]⟩ : ByteArray), .int .i64 0]) ?_ 2 _ rfl; (with_reducible repeat (first | refine blk_drewN ?_ _ | refine blk_drew ?_ | refine blk_alloc ?_ _)); refine blk_put (cs := #[.int .i64 ((rd_T45 ((rd_T40 l0 x7_2).f3) x8_3).f0), .int .i64 0, .string (⟨#[]⟩ : ByteArray), .int .i64 0]) ?_ 1 _ rfl; (with_reducible repeat (first | refine blk_drewN ?_ _ | refine blk_drew ?_ | refine blk_alloc ?_ _)); refine blk_put (cs := #[.int .i64 0, .int .i64 0, .string (⟨#[]⟩ : ByteArray), .int .i64 0]) ?_ 0 _ rfl; (with_reducible repeat (first | refine blk_drewN ?_ _ | refine blk_drew ?_ | refine blk_alloc ?_ _)); exact BK141.out) hb); have n1_ := Aside0.mk (below_step (by repeat (first | (with_reducible first | exact HB.out | apply below_alloc | apply pw_below_drewN | apply below_drew1 | refine below_set ?_ GE141.out) | exact HB.out)) hb); clear BK141; clear HB; have BK141 := n0_; have HB := n1_; clear n0_ n1_; (try clear hb); (try clear hb2); (try clear hk); (try clear hi)) | ((with_reducible refine gate_dst (N := 10) rfl ?_); refine box_event ?hg (N := 10) ?hd (cs := #[.string (⟨#[]⟩ : ByteArray), .int .i64 0, .int .i64 0]) (t := 36) ?hr ?_; (case hd => rfl); (case hg => rfl); (case hr => first | (go_simp; done) | (go_simp; rfl)); intro gb146 hg w35 hbox hb; have n0_ := Aside0.mk (blk_below (g := gb141) (o := .cells #[.int .i64 ((rd_T45 ((rd_T40 l0 x7_2).f3) x8_3).f0), .int .i64 ((rd_T45 ((rd_T40 l0 x7_2).f3) x8_3).f1), .string ((rd_T45 ((rd_T40 l0 x7_2).f3) x8_3).f2), .int .i64 ((rd_T45 ((rd_T40 l0 x7_2).f3) x8_3).f3)] 45 (0, 0)) (by (with_reducible repeat (first | refine blk_drewN ?_ _ | refine blk_drew ?_ | refine blk_alloc ?_ _)); exact BK141.out) hb); have n1_ := Aside0.mk (below_step (by repeat (first | (with_reducible first | exact HB.out | apply below_alloc | apply pw_below_drewN | apply below_drew1 | refine below_set ?_ GE141.out) | exact HB.out)) hb); have n2_ := Aside0.mk (hbox); have n3_ := Aside0.mk ((by rw [hg]; exact (below_size (by repeat (first | (with_reducible first | exact HB.out | apply below_alloc | apply pw_below_drewN | apply below_drew1 | refine below_set ?_ GE141.out) | exact HB.out))) : w.heap.size ≤ gb146)); have n4_ := Aside0.mk ((by rw [hg]; exact (below_size (by repeat (first | (with_reducible first | exact HB.out | apply below_alloc | apply pw_below_drewN | apply below_drew1 | refine below_set ?_ GE141.out) | exact HB.out))) : w.heap.size ≤ gb146)); have n5_ := Aside0.mk ((by rw [hg]; exact Nat.ne_of_lt (blk_lt (g := gb141) (o := .cells #[.int .i64 ((rd_T45 ((rd_T40 l0 x7_2).f3) x8_3).f0), .int .i64 ((rd_T45 ((rd_T40 l0 x7_2).f3) x8_3).f1), .string ((rd_T45 ((rd_T40 l0 x7_2).f3) x8_3).f2), .int .i64 ((rd_T45 ((rd_T40 l0 x7_2).f3) x8_3).f3)] 45 (0, 0)) (by (with_reducible repeat (first | refine blk_drewN ?_ _ | refine blk_drew ?_ | refine blk_alloc ?_ _)); exact BK141.out)) : gb141 ≠ gb146)); have n6_ := Aside0.mk ((by rw [hg]; exact Nat.ne_of_gt (blk_lt (g := gb141) (o := .cells #[.int .i64 ((rd_T45 ((rd_T40 l0 x7_2).f3) x8_3).f0), .int .i64 ((rd_T45 ((rd_T40 l0 x7_2).f3) x8_3).f1), .string ((rd_T45 ((rd_T40 l0 x7_2).f3) x8_3).f2), .int .i64 ((rd_T45 ((rd_T40 l0 x7_2).f3) x8_3).f3)] 45 (0, 0)) (by (with_reducible repeat (first | refine blk_drewN ?_ _ | refine blk_drew ?_ | refine blk_alloc ?_ _)); exact BK141.out)) : gb146 ≠ gb141)); clear BK141; clear HB; have BK141 := n0_; have HB := n1_; have BK146 := n2_; have GW146 := n3_; have GE146 := n4_; have NB141_146 := n5_; have NB146_141 := n6_; clear n0_ n1_ n2_ n3_ n4_ n5_ n6_; clear hb hbox hg; have hnb36 := NB146_141.out; have hnc36 := NB141_146.out; have hcz37_0 : w35.cell? ⟨gb146, 0, none⟩ = some (.string (⟨#[]⟩ : ByteArray)) := (blk_cell BK146.out 0).trans rfl; have hcz37_1 : w35.cell? ⟨gb146, 1, none⟩ = some (.int .i64 0) := (blk_cell BK146.out 1).trans rfl; have hcz37_2 : w35.cell? ⟨gb146, 2, none⟩ = some (.int .i64 0) := (blk_cell BK146.out 2).trans rfl; have hfz37_0 := blk_frozen BK146.out 0; have hfz37_1 := blk_frozen BK146.out 1; have hfz37_2 := blk_frozen BK146.out 2))
                            repeat (go_quiet (first | ((with_reducible refine gate_dst (N := 9) rfl ?_); refine box_event ?hg (N := 9) ?hd (cs := #[.int .i64 0, .int .i64 0, .string (⟨#[]⟩ : ByteArray), .int .i64 0]) (t := 45) ?hr ?_; (case hd => rfl); (case hg => rfl); (case hr => first | (go_simp; done) | (go_simp; rfl)); intro gb141 hg w32 hbox hb; have n0_ := Aside0.mk (below_step (by repeat (first | (with_reducible first | exact HB.out | apply below_alloc | apply pw_below_drewN | apply below_drew1) | exact HB.out)) hb); have n1_ := Aside0.mk (hbox); have n2_ := Aside0.mk ((by rw [hg]; exact (below_size (by repeat (first | (with_reducible first | exact HB.out | apply below_alloc | apply pw_below_drewN | apply below_drew1) | exact HB.out))) : w.heap.size ≤ gb141)); have n3_ := Aside0.mk ((by rw [hg]; exact (below_size (by repeat (first | (with_reducible first | exact HB.out | apply below_alloc | apply pw_below_drewN | apply below_drew1) | exact HB.out))) : w.heap.size ≤ gb141)); clear HB; have HB := n0_; have BK141 := n1_; have GW141 := n2_; have GE141 := n3_; clear n0_ n1_ n2_ n3_; clear hb hbox hg; have hcz33_0 : w32.cell? ⟨gb141, 0, none⟩ = some (.int .i64 0) := (blk_cell BK141.out 0).trans rfl; have hcz33_1 : w32.cell? ⟨gb141, 1, none⟩ = some (.int .i64 0) := (blk_cell BK141.out 1).trans rfl; have hcz33_2 : w32.cell? ⟨gb141, 2, none⟩ = some (.string (⟨#[]⟩ : ByteArray)) := (blk_cell BK141.out 2).trans rfl; have hcz33_3 : w32.cell? ⟨gb141, 3, none⟩ = some (.int .i64 0) := (blk_cell BK141.out 3).trans rfl; have hfz33_0 := blk_frozen BK141.out 0; have hfz33_1 := blk_frozen BK141.out 1; have hfz33_2 := blk_frozen BK141.out 2; have hfz33_3 := blk_frozen BK141.out 3) | (go_at_call 30; (with_reducible refine (cotterref07_find.calls k3 _ _ l1 ((rd_T45 ((rd_T40 l0 x7_2).f3) x8_3).f2) t142 t143 t144 false _ ?side1 ?side2 A15.out).mono ?_); (case side1 => exact Kd.C_below HR1.out (by repeat (first | (with_reducible first | exact HB.out | apply below_alloc | apply pw_below_drewN | apply below_drew1 | refine below_set ?_ GE141.out) | exact HB.out))); (case side2 => exact HC1.out); rintro e w34 ⟨rfl, hb⟩; have n0_ := Aside0.mk (blk_below (g := gb141) (o := .cells #[.int .i64 ((rd_T45 ((rd_T40 l0 x7_2).f3) x8_3).f0), .int .i64 ((rd_T45 ((rd_T40 l0 x7_2).f3) x8_3).f1), .string ((rd_T45 ((rd_T40 l0 x7_2).f3) x8_3).f2), .int .i64 ((rd_T45 ((rd_T40 l0 x7_2).f3) x8_3).f3)] 45 (0, 0)) (by (with_reducible repeat (first | refine blk_drewN ?_ _ | refine blk_drew ?_ | refine blk_alloc ?_ _)); refine blk_put (cs := #[.int .i64 ((rd_T45 ((rd_T40 l0 x7_2).f3) x8_3).f0), .int .i64 ((rd_T45 ((rd_T40 l0 x7_2).f3) x8_3).f1), .string ((rd_T45 ((rd_T40 l0 x7_2).f3) x8_3).f2), .int .i64 0]) ?_ 3 _ rfl; (with_reducible repeat (first | refine blk_drewN ?_ _ | refine blk_drew ?_ | refine blk_alloc ?_ _)); refine blk_put (cs := #[.int .i64 ((rd_T45 ((rd_T40 l0 x7_2).f3) x8_3).f0), .int .i64 ((rd_T45 ((rd_T40 l0 x7_2).f3) x8_3).f1), .string (⟨#[]⟩ : ByteArray), .int .i64 0]) ?_ 2 _ rfl; (with_reducible repeat (first | refine blk_drewN ?_ _ | refine blk_drew ?_ | refine blk_alloc ?_ _)); refine blk_put (cs := #[.int .i64 ((rd_T45 ((rd_T40 l0 x7_2).f3) x8_3).f0), .int .i64 0, .string (⟨#[]⟩ : ByteArray), .int .i64 0]) ?_ 1 _ rfl; (with_reducible repeat (first | refine blk_drewN ?_ _ | refine blk_drew ?_ | refine blk_alloc ?_ _)); refine blk_put (cs := #[.int .i64 0, .int .i64 0, .string (⟨#[]⟩ : ByteArray), .int .i64 0]) ?_ 0 _ rfl; (with_reducible repeat (first | refine blk_drewN ?_ _ | refine blk_drew ?_ | refine blk_alloc ?_ _)); exact BK141.out) hb); have n1_ := Aside0.mk (below_step (by repeat (first | (with_reducible first | exact HB.out | apply below_alloc | apply pw_below_drewN | apply below_drew1 | refine below_set ?_ GE141.out) | exact HB.out)) hb); clear BK141; clear HB; have BK141 := n0_; have HB := n1_; clear n0_ n1_; (try clear hb); (try clear hb2); (try clear hk); (try clear hi)) | ((with_reducible refine gate_dst (N := 10) rfl ?_); refine box_event ?hg (N := 10) ?hd (cs := #[.string (⟨#[]⟩ : ByteArray), .int .i64 0, .int .i64 0]) (t := 36) ?hr ?_; (case hd => rfl); (case hg => rfl); (case hr => first | (go_simp; done) | (go_simp; rfl)); intro gb146 hg w35 hbox hb; have n0_ := Aside0.mk (blk_below (g := gb141) (o := .cells #[.int .i64 ((rd_T45 ((rd_T40 l0 x7_2).f3) x8_3).f0), .int .i64 ((rd_T45 ((rd_T40 l0 x7_2).f3) x8_3).f1), .string ((rd_T45 ((rd_T40 l0 x7_2).f3) x8_3).f2), .int .i64 ((rd_T45 ((rd_T40 l0 x7_2).f3) x8_3).f3)] 45 (0, 0)) (by (with_reducible repeat (first | refine blk_drewN ?_ _ | refine blk_drew ?_ | refine blk_alloc ?_ _)); exact BK141.out) hb); have n1_ := Aside0.mk (below_step (by repeat (first | (with_reducible first | exact HB.out | apply below_alloc | apply pw_below_drewN | apply below_drew1 | refine below_set ?_ GE141.out) | exact HB.out)) hb); have n2_ := Aside0.mk (hbox); have n3_ := Aside0.mk ((by rw [hg]; exact (below_size (by repeat (first | (with_reducible first | exact HB.out | apply below_alloc | apply pw_below_drewN | apply below_drew1 | refine below_set ?_ GE141.out) | exact HB.out))) : w.heap.size ≤ gb146)); have n4_ := Aside0.mk ((by rw [hg]; exact (below_size (by repeat (first | (with_reducible first | exact HB.out | apply below_alloc | apply pw_below_drewN | apply below_drew1 | refine below_set ?_ GE141.out) | exact HB.out))) : w.heap.size ≤ gb146)); have n5_ := Aside0.mk ((by rw [hg]; exact Nat.ne_of_lt (blk_lt (g := gb141) (o := .cells #[.int .i64 ((rd_T45 ((rd_T40 l0 x7_2).f3) x8_3).f0), .int .i64 ((rd_T45 ((rd_T40 l0 x7_2).f3) x8_3).f1), .string ((rd_T45 ((rd_T40 l0 x7_2).f3) x8_3).f2), .int .i64 ((rd_T45 ((rd_T40 l0 x7_2).f3) x8_3).f3)] 45 (0, 0)) (by (with_reducible repeat (first | refine blk_drewN ?_ _ | refine blk_drew ?_ | refine blk_alloc ?_ _)); exact BK141.out)) : gb141 ≠ gb146)); have n6_ := Aside0.mk ((by rw [hg]; exact Nat.ne_of_gt (blk_lt (g := gb141) (o := .cells #[.int .i64 ((rd_T45 ((rd_T40 l0 x7_2).f3) x8_3).f0), .int .i64 ((rd_T45 ((rd_T40 l0 x7_2).f3) x8_3).f1), .string ((rd_T45 ((rd_T40 l0 x7_2).f3) x8_3).f2), .int .i64 ((rd_T45 ((rd_T40 l0 x7_2).f3) x8_3).f3)] 45 (0, 0)) (by (with_reducible repeat (first | refine blk_drewN ?_ _ | refine blk_drew ?_ | refine blk_alloc ?_ _)); exact BK141.out)) : gb146 ≠ gb141)); clear BK141; clear HB; have BK141 := n0_; have HB := n1_; have BK146 := n2_; have GW146 := n3_; have GE146 := n4_; have NB141_146 := n5_; have NB146_141 := n6_; clear n0_ n1_ n2_ n3_ n4_ n5_ n6_; clear hb hbox hg; have hnb36 := NB146_141.out; have hnc36 := NB141_146.out; have hcz37_0 : w35.cell? ⟨gb146, 0, none⟩ = some (.string (⟨#[]⟩ : ByteArray)) := (blk_cell BK146.out 0).trans rfl; have hcz37_1 : w35.cell? ⟨gb146, 1, none⟩ = some (.int .i64 0) := (blk_cell BK146.out 1).trans rfl; have hcz37_2 : w35.cell? ⟨gb146, 2, none⟩ = some (.int .i64 0) := (blk_cell BK146.out 2).trans rfl; have hfz37_0 := blk_frozen BK146.out 0; have hfz37_1 := blk_frozen BK146.out 1; have hfz37_2 := blk_frozen BK146.out 2)); try go_wp2_with (first | ((with_reducible refine gate_dst (N := 9) rfl ?_); refine box_event ?hg (N := 9) ?hd (cs := #[.int .i64 0, .int .i64 0, .string (⟨#[]⟩ : ByteArray), .int .i64 0]) (t := 45) ?hr ?_; (case hd => rfl); (case hg => rfl); (case hr => first | (go_simp; done) | (go_simp; rfl)); intro gb141 hg w32 hbox hb; have n0_ := Aside0.mk (below_step (by repeat (first | (with_reducible first | exact HB.out | apply below_alloc | apply pw_below_drewN | apply below_drew1) | exact HB.out)) hb); have n1_ := Aside0.mk (hbox); have n2_ := Aside0.mk ((by rw [hg]; exact (below_size (by repeat (first | (with_reducible first | exact HB.out | apply below_alloc | apply pw_below_drewN | apply below_drew1) | exact HB.out))) : w.heap.size ≤ gb141)); have n3_ := Aside0.mk ((by rw [hg]; exact (below_size (by repeat (first | (with_reducible first | exact HB.out | apply below_alloc | apply pw_below_drewN | apply below_drew1) | exact HB.out))) : w.heap.size ≤ gb141)); clear HB; have HB := n0_; have BK141 := n1_; have GW141 := n2_; have GE141 := n3_; clear n0_ n1_ n2_ n3_; clear hb hbox hg; have hcz33_0 : w32.cell? ⟨gb141, 0, none⟩ = some (.int .i64 0) := (blk_cell BK141.out 0).trans rfl; have hcz33_1 : w32.cell? ⟨gb141, 1, none⟩ = some (.int .i64 0) := (blk_cell BK141.out 1).trans rfl; have hcz33_2 : w32.cell? ⟨gb141, 2, none⟩ = some (.string (⟨#[]⟩ : ByteArray)) := (blk_cell BK141.out 2).trans rfl; have hcz33_3 : w32.cell? ⟨gb141, 3, none⟩ = some (.int .i64 0) := (blk_cell BK141.out 3).trans rfl; have hfz33_0 := blk_frozen BK141.out 0; have hfz33_1 := blk_frozen BK141.out 1; have hfz33_2 := blk_frozen BK141.out 2; have hfz33_3 := blk_frozen BK141.out 3) | (go_at_call 30; (with_reducible refine (cotterref07_find.calls k3 _ _ l1 ((rd_T45 ((rd_T40 l0 x7_2).f3) x8_3).f2) t142 t143 t144 false _ ?side1 ?side2 A15.out).mono ?_); (case side1 => exact Kd.C_below HR1.out (by repeat (first | (with_reducible first | exact HB.out | apply below_alloc | apply pw_below_drewN | apply below_drew1 | refine below_set ?_ GE141.out) | exact HB.out))); (case side2 => exact HC1.out); rintro e w34 ⟨rfl, hb⟩; have n0_ := Aside0.mk (blk_below (g := gb141) (o := .cells #[.int .i64 ((rd_T45 ((rd_T40 l0 x7_2).f3) x8_3).f0), .int .i64 ((rd_T45 ((rd_T40 l0 x7_2).f3) x8_3).f1), .string ((rd_T45 ((rd_T40 l0 x7_2).f3) x8_3).f2), .int .i64 ((rd_T45 ((rd_T40 l0 x7_2).f3) x8_3).f3)] 45 (0, 0)) (by (with_reducible repeat (first | refine blk_drewN ?_ _ | refine blk_drew ?_ | refine blk_alloc ?_ _)); refine blk_put (cs := #[.int .i64 ((rd_T45 ((rd_T40 l0 x7_2).f3) x8_3).f0), .int .i64 ((rd_T45 ((rd_T40 l0 x7_2).f3) x8_3).f1), .string ((rd_T45 ((rd_T40 l0 x7_2).f3) x8_3).f2), .int .i64 0]) ?_ 3 _ rfl; (with_reducible repeat (first | refine blk_drewN ?_ _ | refine blk_drew ?_ | refine blk_alloc ?_ _)); refine blk_put (cs := #[.int .i64 ((rd_T45 ((rd_T40 l0 x7_2).f3) x8_3).f0), .int .i64 ((rd_T45 ((rd_T40 l0 x7_2).f3) x8_3).f1), .string (⟨#[]⟩ : ByteArray), .int .i64 0]) ?_ 2 _ rfl; (with_reducible repeat (first | refine blk_drewN ?_ _ | refine blk_drew ?_ | refine blk_alloc ?_ _)); refine blk_put (cs := #[.int .i64 ((rd_T45 ((rd_T40 l0 x7_2).f3) x8_3).f0), .int .i64 0, .string (⟨#[]⟩ : ByteArray), .int .i64 0]) ?_ 1 _ rfl; (with_reducible repeat (first | refine blk_drewN ?_ _ | refine blk_drew ?_ | refine blk_alloc ?_ _)); refine blk_put (cs := #[.int .i64 0, .int .i64 0, .string (⟨#[]⟩ : ByteArray), .int .i64 0]) ?_ 0 _ rfl; (with_reducible repeat (first | refine blk_drewN ?_ _ | refine blk_drew ?_ | refine blk_alloc ?_ _)); exact BK141.out) hb); have n1_ := Aside0.mk (below_step (by repeat (first | (with_reducible first | exact HB.out | apply below_alloc | apply pw_below_drewN | apply below_drew1 | refine below_set ?_ GE141.out) | exact HB.out)) hb); clear BK141; clear HB; have BK141 := n0_; have HB := n1_; clear n0_ n1_; (try clear hb); (try clear hb2); (try clear hk); (try clear hi)) | ((with_reducible refine gate_dst (N := 10) rfl ?_); refine box_event ?hg (N := 10) ?hd (cs := #[.string (⟨#[]⟩ : ByteArray), .int .i64 0, .int .i64 0]) (t := 36) ?hr ?_; (case hd => rfl); (case hg => rfl); (case hr => first | (go_simp; done) | (go_simp; rfl)); intro gb146 hg w35 hbox hb; have n0_ := Aside0.mk (blk_below (g := gb141) (o := .cells #[.int .i64 ((rd_T45 ((rd_T40 l0 x7_2).f3) x8_3).f0), .int .i64 ((rd_T45 ((rd_T40 l0 x7_2).f3) x8_3).f1), .string ((rd_T45 ((rd_T40 l0 x7_2).f3) x8_3).f2), .int .i64 ((rd_T45 ((rd_T40 l0 x7_2).f3) x8_3).f3)] 45 (0, 0)) (by (with_reducible repeat (first | refine blk_drewN ?_ _ | refine blk_drew ?_ | refine blk_alloc ?_ _)); exact BK141.out) hb); have n1_ := Aside0.mk (below_step (by repeat (first | (with_reducible first | exact HB.out | apply below_alloc | apply pw_below_drewN | apply below_drew1 | refine below_set ?_ GE141.out) | exact HB.out)) hb); have n2_ := Aside0.mk (hbox); have n3_ := Aside0.mk ((by rw [hg]; exact (below_size (by repeat (first | (with_reducible first | exact HB.out | apply below_alloc | apply pw_below_drewN | apply below_drew1 | refine below_set ?_ GE141.out) | exact HB.out))) : w.heap.size ≤ gb146)); have n4_ := Aside0.mk ((by rw [hg]; exact (below_size (by repeat (first | (with_reducible first | exact HB.out | apply below_alloc | apply pw_below_drewN | apply below_drew1 | refine below_set ?_ GE141.out) | exact HB.out))) : w.heap.size ≤ gb146)); have n5_ := Aside0.mk ((by rw [hg]; exact Nat.ne_of_lt (blk_lt (g := gb141) (o := .cells #[.int .i64 ((rd_T45 ((rd_T40 l0 x7_2).f3) x8_3).f0), .int .i64 ((rd_T45 ((rd_T40 l0 x7_2).f3) x8_3).f1), .string ((rd_T45 ((rd_T40 l0 x7_2).f3) x8_3).f2), .int .i64 ((rd_T45 ((rd_T40 l0 x7_2).f3) x8_3).f3)] 45 (0, 0)) (by (with_reducible repeat (first | refine blk_drewN ?_ _ | refine blk_drew ?_ | refine blk_alloc ?_ _)); exact BK141.out)) : gb141 ≠ gb146)); have n6_ := Aside0.mk ((by rw [hg]; exact Nat.ne_of_gt (blk_lt (g := gb141) (o := .cells #[.int .i64 ((rd_T45 ((rd_T40 l0 x7_2).f3) x8_3).f0), .int .i64 ((rd_T45 ((rd_T40 l0 x7_2).f3) x8_3).f1), .string ((rd_T45 ((rd_T40 l0 x7_2).f3) x8_3).f2), .int .i64 ((rd_T45 ((rd_T40 l0 x7_2).f3) x8_3).f3)] 45 (0, 0)) (by (with_reducible repeat (first | refine blk_drewN ?_ _ | refine blk_drew ?_ | refine blk_alloc ?_ _)); exact BK141.out)) : gb146 ≠ gb141)); clear BK141; clear HB; have BK141 := n0_; have HB := n1_; have BK146 := n2_; have GW146 := n3_; have GE146 := n4_; have NB141_146 := n5_; have NB146_141 := n6_; clear n0_ n1_ n2_ n3_ n4_ n5_ n6_; clear hb hbox hg; have hnb36 := NB146_141.out; have hnc36 := NB141_146.out; have hcz37_0 : w35.cell? ⟨gb146, 0, none⟩ = some (.string (⟨#[]⟩ : ByteArray)) := (blk_cell BK146.out 0).trans rfl; have hcz37_1 : w35.cell? ⟨gb146, 1, none⟩ = some (.int .i64 0) := (blk_cell BK146.out 1).trans rfl; have hcz37_2 : w35.cell? ⟨gb146, 2, none⟩ = some (.int .i64 0) := (blk_cell BK146.out 2).trans rfl; have hfz37_0 := blk_frozen BK146.out 0; have hfz37_1 := blk_frozen BK146.out 1; have hfz37_2 := blk_frozen BK146.out 2)))
                            go_ret
                            exact ⟨by first | rfl | (simp [errW_none, errW_some] <;> rfl) | (simp [*, errW_none, errW_some] <;> rfl), by repeat (first | (with_reducible first | exact HB.out | apply below_alloc | apply pw_below_drewN | apply below_drew1 | refine below_set ?_ GE141.out | refine below_set ?_ GE146.out) | exact HB.out)⟩
                        · rw [if_neg c14] at H
                          exact absurd H (by simp)
                      · rw [if_neg c13] at H
                        have c13b0 : decide (x8_3 < (((rd_T40 l0 x7_2).f3).length : Int)) = false := decide_eq_false c13
                        clear c13
                        have H' := Aside0.mk H
                        clear H
                        have p138 : 0 ≤ (x7_2 : Int) := of_decide_eq_true (by first | (with_reducible assumption) | assumption)
                        have q138 : x7_2 < (l0.length : Int) := of_decide_eq_true (by first | (with_reducible assumption) | assumption)
                        obtain ⟨ad138, A138_1, c138_1, A138_2, c138_2, A138_3, c138_3, e138, hx138_0, hx138_1, hx138_2, hx138_3, hl138_1, hi138_1, hl138_2, hi138_2, hl138_3, hi138_3⟩ := at_T40 HR0.out x7_2 p138 q138
                        cases e138
                        replace hx138_0 := (HB.out.cell (World.block_lt_of_cell? w _ hx138_0)).trans hx138_0
                        replace hx138_1 := (HB.out.cell (World.block_lt_of_cell? w _ hx138_1)).trans hx138_1
                        replace hx138_2 := (HB.out.cell (World.block_lt_of_cell? w _ hx138_2)).trans hx138_2
                        replace hx138_3 := (HB.out.cell (World.block_lt_of_cell? w _ hx138_3)).trans hx138_3
                        have HR138_1 := Aside0.mk hi138_1
                        have HC138_1 := Aside0.mk hl138_1
                        clear hi138_1 hl138_1
                        have HR138_2 := Aside0.mk hi138_2
                        have HC138_2 := Aside0.mk hl138_2
                        clear hi138_2 hl138_2
                        have HR138_3 := Aside0.mk hi138_3
                        have HC138_3 := Aside0.mk hl138_3
                        clear hi138_3 hl138_3
                        replace p138 := eq_true p138
                        replace q138 := eq_true q138
                        go_wp2
                        repeat (go_quiet (fail); try go_wp2)
                        go_roundg k3
                        case measure => have := HK1.out; have := HK2.out; have := HK3.out; omega
                        case rel => exact ⟨(wrap64 (x7_2 + 1)), (by first | rfl | (simp; done) | (simp [*]; done)), H', ⟨by have := HK1.out; have := HK2.out; have := HK3.out; omega⟩, ⟨by repeat (first | (with_reducible first | exact HB.out | apply below_alloc | apply pw_below_drewN | apply below_drew1) | exact HB.out)⟩⟩
                    · rw [if_neg c12] at H
                      exact absurd H (by simp)
                  · rw [if_neg c11] at H
                    exact absurd H (by simp)
            · rw [if_neg c10] at H
              have c10b0 : decide (x7_2 < (l0.length : Int)) = false := decide_eq_false c10
              clear c10
              obtain rfl := Option.some.inj H
              go_wp2
              repeat (go_quiet (fail); try go_wp2)
              go_ret
              exact ⟨by first | rfl | (simp [errW_none, errW_some] <;> rfl) | (simp [*, errW_none, errW_some] <;> rfl), by repeat (first | (with_reducible first | exact HB.out | apply below_alloc | apply pw_below_drewN | apply below_drew1) | exact HB.out)⟩

end Go.Proofs.Yteaealmnmmcbpaa.M

/-
  Layer 7, plain: what the document's Lay, names, threads and find answer, and that its Link answers as the program's plain link. Condition: objects that may be, at most sixteen.
-/
namespace Go.Proofs.Yteaealmnmmcbpaa.M
open Go.RowKit Go.Proofs.YteaealmnmmcbpaaW.PrintWords Go.Proofs.YteaealmnmmcbpaaW.PrintLast Go.Proofs.Yteaealmnmmcbpaa.Num Go.Proofs.Yteaealmnmmcbpaa.Seven Go.Proofs.Yteaealmnmmcbpaa.Obj Go.Proofs.Yteaealmnmmcbpaa.Word1
set_option linter.unusedVariables false
set_option linter.unusedSimpArgs false
def layAt (nc nd : Nat) (s : S36) : S36 := ⟨s.f0, s.f1, if s.f1 = 2 then s.f2 + nd else s.f2 + nc⟩
/-- All symbols, laid. -/
def rawS (nc nd : Nat) : List S40 → List S36
  | [] => []
  | o :: os => o.f2.map (layAt nc nd) ++ rawS (nc + o.f0.size) (nd + o.f1.length) os
theorem pairs_map (nc nd : Nat) (ss : List S36) : pairs (ss.map (layAt nc nd)) = pairs ss := by unfold pairs; rw [List.map_map]; rfl
theorem raw_pairs : ∀ (os : List S40) (nc nd : Nat), pairs (rawS nc nd os) = kinds os
  | [], _, _ => rfl
  | o :: os, nc, nd => by rw [rawS, pairs_append, pairs_map, raw_pairs os, kinds]; rfl
theorem laySyms_raw : ∀ (ss : List S36) (x y : LkS) (nc nd : Nat), x.nc = nc → x.nd = nd → laySyms x ss = some y → y.syms = x.syms ++ ss.map (layAt nc nd) ∧ y.nc = nc ∧ y.nd = nd
  | [], x, y, nc, nd, h1, h2, h => by obtain rfl := Option.some.inj h; exact ⟨by simp, h1, h2⟩
  | s :: ss, x, y, nc, nd, h1, h2, h => by
    unfold laySyms at h
    split at h
    · cases h
    · obtain ⟨g1, g2, g3⟩ := laySyms_raw ss _ y nc nd (by exact h1) (by exact h2) h
      refine ⟨?_, g2, g3⟩
      rw [g1]
      dsimp only
      rw [List.append_assoc, List.map_cons]
      congr 1
      simp only [List.cons_append, List.nil_append, layOne, layAt, h1, h2]
theorem layAll_raw : ∀ (os : List S40) (x y : LkS) (nc nd : Nat), x.nc = nc → x.nd = nd → x.code.length = nc → x.data.length = nd → layAll x os = some y → y.syms = x.syms ++ rawS nc nd os
  | [], x, y, nc, nd, _, _, _, _, h => by obtain rfl := Option.some.inj h; simp [rawS]
  | o :: os, x, y, nc, nd, h1, h2, h3, h4, h => by
    unfold layAll at h
    obtain ⟨z, hz, h⟩ := Option.bind_eq_some_iff.1 h
    unfold layO at hz
    obtain ⟨u, hu, rfl⟩ := Option.map_eq_some_iff.1 hz
    obtain ⟨g1, g2, g3⟩ := laySyms_raw _ _ _ nc nd h1 h2 hu
    have c1 := laySyms_code _ _ _ hu
    have c2 := laySyms_data _ _ _ hu
    have := layAll_raw os _ y (nc + o.f0.size) (nd + o.f1.length) (by dsimp only; rw [c1, h3]; omega) (by dsimp only; rw [c2, h4]; omega) (by dsimp only; rw [List.length_append, c1, h3, bytesOf_length]) (by dsimp only; rw [List.length_append, c2, h4]) h
    rw [this, rawS]
    dsimp only
    rw [g1, List.append_assoc]
/-- The program's plain link, said with all symbols laid first. -/
theorem linkF_raw {l0 : List S40} (h16 : l0.length ≤ 16) (hm : ∀ o ∈ l0, mayO o = true) :
    linkF l0 = if ¬ ((rawS 0 0 l0).map (·.f0)).Nodup then linkE 5
      else if fitsAll (rawS 0 0 l0) (l0.flatMap (·.f3)) ≠ 0 then linkE (fitsAll (rawS 0 0 l0) (l0.flatMap (·.f3)))
      else if 65536 < (codeAll l0).length ∨ 4096 < (dataAll l0).length ∨ 1000 < (rawS 0 0 l0).length ∨ ths (pairs (rawS 0 0 l0)) < 1 ∨ 4 < ths (pairs (rawS 0 0 l0)) then linkE 8
      else match fillAll (rawS 0 0 l0) (codeAll l0) (relsAt 0 l0) with
        | none => linkE 7
        | some c => ((strOfNums c, dataAll l0, rawS 0 0 l0), 0) := by
  have hp := raw_pairs l0 0 0
  unfold linkF
  rw [if_neg (by omega), if_neg (by rw [List.all_eq_true.2 hm]; simp)]
  by_cases hn : ((rawS 0 0 l0).map (·.f0)).Nodup
  · rw [if_neg (fun h => h hn)]
    have hk : ((kinds l0).map (·.1)).Nodup := by rw [← hp, pairs_names]; exact hn
    obtain ⟨x, hx⟩ := layAll_some l0 LkS.empty (by simpa [LkS.empty] using hk)
    have h1 : x.syms = rawS 0 0 l0 := by simpa [LkS.empty] using layAll_raw l0 LkS.empty x 0 0 rfl rfl rfl rfl hx
    have h2 : x.th = ths (pairs (rawS 0 0 l0)) := by rw [hp]; simpa [LkS.empty] using (layAll_kinds l0 _ _ hx).2
    have h3 : x.code = codeAll l0 := by simpa [LkS.empty] using (layAll_both l0 _ _ hx).1
    have h4 : x.data = dataAll l0 := by simpa [LkS.empty] using (layAll_both l0 _ _ hx).2
    rw [hx]
    show linkL l0 x = _
    unfold linkL
    rw [h1, h2, h3, h4]
    by_cases hf : fitsAll (rawS 0 0 l0) (l0.flatMap (·.f3)) = 0
    · rw [if_neg (fun h => h hf)]
      by_cases hl : 65536 < (codeAll l0).length ∨ 4096 < (dataAll l0).length ∨ 1000 < (rawS 0 0 l0).length ∨ ths (pairs (rawS 0 0 l0)) < 1 ∨ 4 < ths (pairs (rawS 0 0 l0))
      · have hl' : 65536 < (codeAll l0).length ∨ 4096 < (dataAll l0).length ∨ 1000 < (rawS 0 0 l0).length ∨ ((ths (pairs (rawS 0 0 l0)) : Nat) : Int) < 1 ∨ 4 < ((ths (pairs (rawS 0 0 l0)) : Nat) : Int) := by omega
        rw [if_pos hl', if_neg (fun h => h hf), if_pos hl]
      · have hl' : ¬ (65536 < (codeAll l0).length ∨ 4096 < (dataAll l0).length ∨ 1000 < (rawS 0 0 l0).length ∨ ((ths (pairs (rawS 0 0 l0)) : Nat) : Int) < 1 ∨ 4 < ((ths (pairs (rawS 0 0 l0)) : Nat) : Int)) := by omega
        rw [if_neg hl', if_neg (fun h => h hf), if_neg hl]
        cases fillAll (rawS 0 0 l0) (codeAll l0) (relsAt 0 l0) <;> rfl
    · rw [if_pos hf, if_pos hf]
  · rw [if_pos hn]
    cases hx : layAll LkS.empty l0 with
    | none => rfl
    | some x =>
      exfalso
      apply hn
      have h1 : x.syms = rawS 0 0 l0 := by simpa [LkS.empty] using layAll_raw l0 LkS.empty x 0 0 rfl rfl rfl rfl hx
      rw [← h1]
      exact layAll_nodup l0 _ _ hx (by simp [LkS.empty])
/-! ### The document's functions -/
theorem rds {l : List S36} {q : Nat} (hq : q < l.length) : rd_T36 l (q : Int) = l[q] := by simp [rd_T36, List.getD_eq_getElem?_getD, List.getElem?_eq_getElem hq]
def findR (l : List S36) (t : ByteArray) : ByteArray × Int × Int × Bool := match l.find? fun s => decide (s.f0 = t) with | none => (⟨#[]⟩, 0, 0, false) | some s => (s.f0, s.f1, s.f2, true)
theorem find_ev (l : List S36) (t : ByteArray) (hl : l.length < 9223372036854775807) : Ev fun k => cotterref07_find.f k l t = some (findR l t) := by
  have key : ∀ (d i : Nat), l.length - i = d → i ≤ l.length → Ev fun k => cotterref07_find.l0 k l t i = some (findR (l.drop i) t) := by
    intro d
    induction d with
    | zero =>
      intro i hd hi
      refine .step (.of fun k => ?_)
      simp only [cotterref07_find.l0]
      rw [if_neg (by omega), List.drop_of_length_le (by omega)]
      rfl
    | succ d ih =>
      intro i hd hi
      have hlt : i < l.length := by omega
      rw [List.drop_eq_getElem_cons hlt]
      by_cases hn : (l[i]).f0 = t
      · refine .step (.of fun k => ?_)
        simp only [cotterref07_find.l0]
        rw [if_pos (by omega), if_pos (by omega), rds hlt, if_pos (by rw [hn])]
        unfold findR
        rw [List.find?_cons_of_pos (by exact decide_eq_true hn)]
      · refine .step ((ih (i + 1) (by omega) (by omega)).mono fun k hk => ?_)
        simp only [cotterref07_find.l0]
        rw [if_pos (by omega), if_pos (by omega), rds hlt, if_neg (fun e => hn (toList_inj e)), wrap64_id (by omega) (by omega), show ((i : Int) + 1) = ((i + 1 : Nat) : Int) by omega, hk]
        unfold findR
        rw [List.find?_cons_of_neg (by exact fun e => hn (of_decide_eq_true e))]
  exact (key l.length 0 (by omega) (by omega)).mono fun k hk => hk
theorem threads_ev (l : List S36) (hl : l.length < 9223372036854775807) : Ev fun k => cotterref07_threads.f k l = some (ths (pairs l) : Nat) := by
  have key : ∀ (d i n : Nat), l.length - i = d → i ≤ l.length → n ≤ i → Ev fun k => cotterref07_threads.l0 k l n i = some ((n + ths (pairs (l.drop i)) : Nat) : Int) := by
    intro d
    induction d with
    | zero =>
      intro i n hd hi hn
      refine .step (.of fun k => ?_)
      simp only [cotterref07_threads.l0]
      rw [if_neg (by omega), List.drop_of_length_le (by omega)]
      rfl
    | succ d ih =>
      intro i n hd hi hn
      have hlt : i < l.length := by omega
      rw [List.drop_eq_getElem_cons hlt, show pairs (l[i] :: l.drop (i + 1)) = [((l[i]).f0, (l[i]).f1)] ++ pairs (l.drop (i + 1)) from rfl, ths_append]
      by_cases h3 : (l[i]).f1 = 3
      · refine .step ((ih (i + 1) (n + 1) (by omega) (by omega) (by omega)).mono fun k hk => ?_)
        simp only [cotterref07_threads.l0]
        rw [if_pos (by omega), if_pos (by omega), rds hlt, if_pos h3, wrap64_id (by omega) (by omega), wrap64_id (by omega) (by omega), show ((i : Int) + 1) = ((i + 1 : Nat) : Int) by omega, show ((n : Int) + 1) = ((n + 1 : Nat) : Int) by omega, hk]
        congr 2
        simp [ths, h3]
        omega
      · refine .step ((ih (i + 1) n (by omega) (by omega) (by omega)).mono fun k hk => ?_)
        simp only [cotterref07_threads.l0]
        rw [if_pos (by omega), if_pos (by omega), rds hlt, if_neg h3, wrap64_id (by omega) (by omega), show ((i : Int) + 1) = ((i + 1 : Nat) : Int) by omega, hk]
        congr 2
        simp [ths, h3]
  exact (key l.length 0 0 (by omega) (by omega) (by omega)).mono fun k hk => by simpa [cotterref07_threads.f] using hk
section
variable {L : List S40} {all : List S36}
theorem rdo_mid {A B : List S40} {y : S40} : rd_T40 (A ++ y :: B) (A.length : Int) = y := by simp [rd_T40, List.getD_eq_getElem?_getD]
theorem rdr_mid {A B : List S45} {y : S45} : rd_T45 (A ++ y :: B) (A.length : Int) = y := by simp [rd_T45, List.getD_eq_getElem?_getD]
theorem rds_mid {A B : List S36} {y : S36} : rd_T36 (A ++ y :: B) (A.length : Int) = y := by simp [rd_T36, List.getD_eq_getElem?_getD]
theorem names_l3 {A B : List S40} {o : S40} (hL : L = A ++ o :: B) (ha : all.length < 9223372036854775807)
    (hnext : Ev fun k => cotterref07_names.l2 k L all (wrap64 ((A.length : Int) + 1)) = some (fitsAll all (B.flatMap (·.f3)))) :
    ∀ (Q P : List S45), o.f3 = P ++ Q → o.f3.length < 9223372036854775807 → Ev fun k => cotterref07_names.l3 k L all A.length P.length = some (fitsAll all (Q ++ B.flatMap (·.f3)))
  | [], P, he, hl => by
    refine .step (hnext.mono fun k hk => ?_)
    simp only [cotterref07_names.l3]
    rw [if_pos (by omega), if_pos (by rw [hL, List.length_append, List.length_cons]; omega)]
    rw [show rd_T40 L (A.length : Int) = o by rw [hL]; exact rdo_mid, if_neg (by rw [he]; simp)]
    exact hk
  | r :: Q, P, he, hl => by
    have hlt : P.length < o.f3.length := by rw [he]; simp
    have ih := names_l3 hL ha hnext Q (P ++ [r]) (by rw [he, List.append_assoc]; rfl) hl
    have e0 : ∀ k, cotterref07_find.f k all r.f2 = some (findR all r.f2) → cotterref07_names.l3 (k + 1) L all A.length P.length = if (findR all r.f2).2.2.2 = true then (if (((findR all r.f2).2.1 == 2) != (r.f1 == 2)) = true then some 3 else cotterref07_names.l3 k L all A.length ((P ++ [r]).length : Int)) else some 6 := by
      intro k hk
      simp only [cotterref07_names.l3]
      rw [if_pos (by omega), if_pos (by rw [hL, List.length_append, List.length_cons]; omega)]
      rw [show rd_T40 L (A.length : Int) = o by rw [hL]; exact rdo_mid, if_pos (by omega), if_pos (by omega), show rd_T45 o.f3 (P.length : Int) = r by rw [he]; exact rdr_mid, hk]
      simp only [Option.bind_some]
      rw [wrap64_id (by omega) (by omega), show ((P.length : Int) + 1) = ((P ++ [r]).length : Int) by simp]
    refine .step ((ih.and (find_ev all r.f2 ha)).mono fun k hk => ?_)
    rw [e0 k hk.2, List.cons_append, fitsAll]
    cases hf : all.find? fun s => decide (s.f0 = r.f2) with
    | none =>
      have hR : findR all r.f2 = (⟨#[]⟩, 0, 0, false) := by unfold findR; rw [hf]
      have hF : fitsF all r = 6 := by unfold fitsF; rw [hf]
      rw [hR, hF, if_neg (by simp), if_neg (by decide)]
    | some s =>
      have hR : findR all r.f2 = (s.f0, s.f1, s.f2, true) := by unfold findR; rw [hf]
      by_cases e : (decide (s.f1 = 2)) = decide (r.f1 = 2)
      · have hF : fitsF all r = 0 := by unfold fitsF; rw [hf]; exact if_pos e
        have e' : (s.f1 == 2) = (r.f1 == 2) := e
        rw [hR, hF, if_pos rfl, if_pos rfl]
        dsimp only
        rw [e', if_neg (by simp)]
        exact hk.1
      · have hF : fitsF all r = 3 := by unfold fitsF; rw [hf]; exact if_neg e
        have e' : ¬ ((s.f1 == 2) = (r.f1 == 2)) := e
        rw [hR, hF, if_pos rfl]
        dsimp only
        rw [if_pos (by simpa using e'), if_neg (show ¬ ((3 : Int) = 0) by decide)]
theorem names_l2 (ha : all.length < 9223372036854775807) (hl : L.length ≤ 16) (h3 : ∀ o ∈ L, o.f3.length < 9223372036854775807) : ∀ (B A : List S40), L = A ++ B → Ev fun k => cotterref07_names.l2 k L all A.length = some (fitsAll all (B.flatMap (·.f3)))
  | [], A, he => by
    refine .step (.of fun k => ?_)
    simp only [cotterref07_names.l2]
    rw [if_neg (by rw [he]; simp)]
    rfl
  | o :: B, A, he => by
    have hlt : A.length < L.length := by rw [he]; simp
    have ih := names_l2 ha hl h3 B (A ++ [o]) (by rw [he, List.append_assoc]; rfl)
    have hn := names_l3 (L := L) (all := all) (A := A) (B := B) (o := o) he ha (by
      rw [wrap64_id (by omega) (by omega), show ((A.length : Int) + 1) = ((A ++ [o]).length : Int) by simp]
      exact ih) o.f3 [] rfl (h3 o (by rw [he]; simp))
    refine .step (hn.mono fun k hk => ?_)
    simp only [cotterref07_names.l2]
    rw [if_pos (by omega), List.flatMap_cons]
    exact hk
theorem names_ev (ha : all.length < 9223372036854775807) (hl : L.length ≤ 16) (h3 : ∀ o ∈ L, o.f3.length < 9223372036854775807) :
    Ev fun k => cotterref07_names.f k L all = some (if ¬ (all.map (·.f0)).Nodup then 5 else fitsAll all (L.flatMap (·.f3))) := by
  have same : ∀ (i j : Nat) (hi : i < all.length) (hj : j < i) (h9 : j < all.length), (all[j]).f0 = (all[i]).f0 → ¬ (all.map (·.f0)).Nodup := by
    intro i j hi hj h9 e hn
    have := (List.pairwise_iff_getElem.1 hn) j i (by rw [List.length_map]; omega) (by rw [List.length_map]; omega) hj
    rw [List.getElem_map, List.getElem_map] at this
    exact this e
  have k1 : ∀ (i : Nat) (hi : i < all.length), (Ev fun k => ((∀ m (hm : m < i) (h9 : m < all.length), (all[m]).f0 ≠ (all[i]).f0) → cotterref07_names.l0 k L all (wrap64 ((i : Int) + 1)) = some (if ¬ (all.map (·.f0)).Nodup then 5 else fitsAll all (L.flatMap (·.f3))))) →
      ∀ (d j : Nat), i - j = d → j ≤ i → (∀ m (hm : m < j) (h9 : m < all.length), (all[m]).f0 ≠ (all[i]).f0) → Ev fun k => cotterref07_names.l1 k L all i j = some (if ¬ (all.map (·.f0)).Nodup then 5 else fitsAll all (L.flatMap (·.f3))) := by
    intro i hi hnext d
    induction d with
    | zero =>
      intro j hd hj hne
      obtain rfl : j = i := by omega
      refine .step (hnext.mono fun k hk => ?_)
      simp only [cotterref07_names.l1]
      rw [if_neg (by omega)]
      exact hk hne
    | succ d ih =>
      intro j hd hj hne
      have h9 : j < all.length := by omega
      by_cases e : (all[j]).f0 = (all[i]).f0
      · refine .step (.of fun k => ?_)
        simp only [cotterref07_names.l1]
        rw [if_pos (by omega), if_pos (by omega), if_pos (by omega), if_pos (by omega), if_pos (by omega), rds (show j < all.length by omega), rds hi, if_pos (by rw [e]), if_pos (same i j hi (by omega) h9 e)]
      · refine .step ((ih (j + 1) (by omega) (by omega) (fun m hm h8 => by
          rcases Nat.lt_or_ge m j with h | h
          · exact hne m h h8
          · obtain rfl : m = j := by omega
            exact e)).mono fun k hk => ?_)
        simp only [cotterref07_names.l1]
        rw [if_pos (by omega), if_pos (by omega), if_pos (by omega), if_pos (by omega), if_pos (by omega), rds (show j < all.length by omega), rds hi, if_neg (fun h => e (toList_inj h)), wrap64_id (by omega) (by omega), show ((j : Int) + 1) = ((j + 1 : Nat) : Int) by omega]
        exact hk
  have k0 : ∀ (d i : Nat), all.length - i = d → i ≤ all.length → (∀ q (hq : q < i) (hq2 : q < all.length) m (hm : m < q) (h9 : m < all.length), (all[m]).f0 ≠ (all[q]).f0) → Ev fun k => cotterref07_names.l0 k L all i = some (if ¬ (all.map (·.f0)).Nodup then 5 else fitsAll all (L.flatMap (·.f3))) := by
    intro d
    induction d with
    | zero =>
      intro i hd hi hne
      obtain rfl : i = all.length := by omega
      have hn : (all.map (·.f0)).Nodup := List.pairwise_iff_getElem.2 fun a b ha hb hab => by
        rw [List.getElem_map, List.getElem_map]
        rw [List.length_map] at hb
        exact hne b hb hb a hab (by omega)
      refine .step ((names_l2 ha hl h3 L [] rfl).mono fun k hk => ?_)
      simp only [cotterref07_names.l0]
      rw [if_neg (by omega), if_neg (fun h => h hn)]
      exact hk
    | succ d ih =>
      intro i hd hi hne
      have hlt : i < all.length := by omega
      by_cases hall : ∀ m (hm : m < i) (h9 : m < all.length), (all[m]).f0 ≠ (all[i]).f0
      · have hi2 := ih (i + 1) (by omega) (by omega) (fun q hq hq2 m hm h9 => by
          rcases Nat.lt_or_ge q i with h | h
          · exact hne q h hq2 m hm h9
          · obtain rfl : q = i := by omega
            exact hall m hm h9)
        refine .step ((k1 i hlt (hi2.mono fun k hk _ => by rw [wrap64_id (by omega) (by omega), show ((i : Int) + 1) = ((i + 1 : Nat) : Int) by omega]; exact hk) i 0 (by omega) (by omega) (fun m hm => absurd hm (by omega))).mono fun k hk => ?_)
        simp only [cotterref07_names.l0]
        rw [if_pos (by omega)]
        exact hk
      · refine .step ((k1 i hlt (.of fun k h => absurd h hall) i 0 (by omega) (by omega) (fun m hm => absurd hm (by omega))).mono fun k hk => ?_)
        simp only [cotterref07_names.l0]
        rw [if_pos (by omega)]
        exact hk
  exact (k0 all.length 0 (by omega) (by omega) (fun q hq => absurd hq (by omega))).mono fun k hk => hk
end
/-! ### Lay -/
theorem codeLen_bound : ∀ l : List S40, (∀ o ∈ l, mayO o = true) → codeLen l ≤ l.length * 65536 ∧ (dataAll l).length ≤ l.length * 4096
  | [], _ => ⟨Nat.le_refl _, Nat.le_refl _⟩
  | o :: l, h => by
    have := codeLen_bound l fun o ho => h o (by simp [ho])
    have hp := may_parts (h o (by simp))
    rw [show dataAll (o :: l) = o.f1 ++ dataAll l from rfl, codeLen, List.length_append, List.length_cons]
    omega
theorem bs_codeAll : ∀ l : List S40, Bs (codeAll l) := fun l x hx => by
  obtain ⟨o, _, hx⟩ := List.mem_flatMap.1 hx
  exact bytesOf_Bs _ x hx
theorem code_snoc (A : List S40) (o : S40) : strOfNums (codeAll A) ++ o.f0 = strOfNums (codeAll (A ++ [o])) := by
  refine bytesOf_inj ?_
  rw [bytesOf_append, bytesOf_str (bs_codeAll _), bytesOf_str (bs_codeAll _)]
  simp [codeAll]
theorem lay_l1 {L A B : List S40} {o : S40} (hL : L = A ++ o :: B) (h16 : L.length ≤ 16) (hm : ∀ o ∈ L, mayO o = true) {D : List Int} {R : ByteArray × List Int × List S36} {C : ByteArray} (hc : C.size ≤ 1048576) (hd : D.length ≤ 65536) {acc0 : List S36} (hacc : acc0.length + o.f2.length ≤ 16000)
    (hnext : Ev fun k => cotterref07_Lay.l0 k L (wrap64 ((A.length : Int) + 1)) (C ++ o.f0) (D ++ o.f1) (acc0 ++ o.f2.map (layAt C.size D.length)) = some R) :
    ∀ (Q P : List S36), o.f2 = P ++ Q → Ev fun k => cotterref07_Lay.l1 k L A.length P.length C D (acc0 ++ P.map (layAt C.size D.length)) = some R
  | [], P, he => by
    have hp := may_parts (hm o (by rw [hL]; simp))
    have e : o.f2 = P := by rw [he, List.append_nil]
    rw [e] at hnext
    refine .step (hnext.mono fun k hk => ?_)
    simp only [cotterref07_Lay.l1]
    rw [if_pos (by omega), if_pos (by rw [hL, List.length_append, List.length_cons]; omega)]
    rw [show rd_T40 L (A.length : Int) = o by rw [hL]; exact rdo_mid, if_neg (by rw [e]; simp), if_pos (by omega), if_pos (by omega)]
    exact hk
  | s :: Q, P, he => by
    have hp := may_parts (hm o (by rw [hL]; simp))
    have hs := hp.2.2.2.2.1 s (by rw [he]; simp)
    unfold SymSmall at hs
    have hlt : P.length < o.f2.length := by rw [he]; simp
    have ih := lay_l1 hL h16 hm hc hd hacc hnext Q (P ++ [s]) (by rw [he, List.append_assoc]; rfl)
    rw [List.map_append, ← List.append_assoc] at ih
    have w1 : wrap64 ((P.length : Int) + 1) = ((P ++ [s]).length : Int) := by rw [wrap64_id (by omega) (by omega)]; simp
    have w2 : wrap64 (s.f2 + (D.length : Int)) = s.f2 + (D.length : Int) := wrap64_id (by clear w1; omega) (by clear w1; omega)
    have w3 : wrap64 (s.f2 + (C.size : Int)) = s.f2 + (C.size : Int) := wrap64_id (by clear w1 w2; omega) (by clear w1 w2; omega)
    have hal : (acc0 ++ P.map (layAt C.size D.length)).length < 4398046511104 := by clear w1 w2 w3; rw [List.length_append, List.length_map]; omega
    have hin : (A.length : Int) < (L.length : Int) := by clear w1 w2 w3; rw [hL, List.length_append, List.length_cons]; omega
    refine .step (ih.mono fun k hk => ?_)
    simp only [cotterref07_Lay.l1]
    rw [if_pos (by clear w1 w2 w3; omega), if_pos hin]
    rw [show rd_T40 L (A.length : Int) = o by rw [hL]; exact rdo_mid, if_pos (by clear w1 w2 w3; omega), if_pos (by clear w1 w2 w3; omega), show rd_T36 o.f2 (P.length : Int) = s by rw [he]; exact rds_mid, w1, w2, w3]
    by_cases h2 : s.f1 = 2
    · rw [if_pos h2, if_pos hal]
      have e : layAt C.size D.length s = ⟨s.f0, s.f1, s.f2 + (D.length : Int)⟩ := by unfold layAt; rw [if_pos h2]
      rw [← e]
      exact hk
    · rw [if_neg h2, if_pos hal]
      have e : layAt C.size D.length s = ⟨s.f0, s.f1, s.f2 + (C.size : Int)⟩ := by unfold layAt; rw [if_neg h2]
      rw [← e]
      exact hk
theorem lay_l0 {L : List S40} (h16 : L.length ≤ 16) (hm : ∀ o ∈ L, mayO o = true) : ∀ (B A : List S40) (acc : List S36), L = A ++ B → acc.length ≤ A.length * 1000 →
    Ev fun k => cotterref07_Lay.l0 k L A.length (strOfNums (codeAll A)) (dataAll A) acc = some (strOfNums (codeAll L), dataAll L, acc ++ rawS (codeLen A) (dataAll A).length B)
  | [], A, acc, he, ha => by
    have e : L = A := by rw [he, List.append_nil]
    refine .step (.of fun k => ?_)
    simp only [cotterref07_Lay.l0]
    rw [if_neg (by rw [e]; omega), e, rawS, List.append_nil]
  | o :: B, A, acc, he, ha => by
    have hp := may_parts (hm o (by rw [he]; simp))
    have hb := codeLen_bound A fun z hz => hm z (by rw [he]; simp [hz])
    have hlt : A.length < L.length := by rw [he]; simp
    have ih := lay_l0 h16 hm B (A ++ [o]) (acc ++ o.f2.map (layAt (codeLen A) (dataAll A).length)) (by rw [he, List.append_assoc]; rfl) (by simp only [List.length_append, List.length_map, List.length_cons, List.length_nil]; omega)
    have hsz : (strOfNums (codeAll A)).size = codeLen A := by rw [strOfNums_size, codeAll_length]
    have h1 := lay_l1 (L := L) (A := A) (B := B) (o := o) he h16 hm (C := strOfNums (codeAll A)) (D := dataAll A) (acc0 := acc) (R := (strOfNums (codeAll L), dataAll L, acc ++ rawS (codeLen A) (dataAll A).length (o :: B))) (by rw [hsz]; omega) (by omega) (by omega) (by
      rw [code_snoc, hsz, show dataAll A ++ o.f1 = dataAll (A ++ [o]) by simp [dataAll], wrap64_id (by omega) (by omega), show ((A.length : Int) + 1) = ((A ++ [o]).length : Int) by simp]
      refine ih.mono fun k hk => ?_
      rw [hk, rawS, List.append_assoc, codeLen_append, show codeLen [o] = o.f0.size by simp [codeLen], show (dataAll (A ++ [o])).length = (dataAll A).length + o.f1.length by simp [dataAll]]) o.f2 [] rfl
    refine .step (h1.mono fun k hk => ?_)
    simp only [cotterref07_Lay.l0]
    rw [if_pos (by omega)]
    rw [List.map_nil, List.append_nil] at hk
    exact hk
theorem lay_ev {L : List S40} (h16 : L.length ≤ 16) (hm : ∀ o ∈ L, mayO o = true) : Ev fun k => cotterref07_Lay.f k L = some (strOfNums (codeAll L), dataAll L, rawS 0 0 L) :=
  (lay_l0 h16 hm L [] [] rfl (Nat.zero_le _)).mono fun k hk => hk
end Go.Proofs.Yteaealmnmmcbpaa.M

/-
  Layer 6: rows of bytes that came of a conversion of a text (they bear a mark behind their end): read, appended to, told as a text. No condition beside the sizes.
-/
namespace Go.Proofs.YteaealmnmmcbpaaW.PrintWords
open Go.RowKit
set_option linter.unusedVariables false
set_option linter.unusedSimpArgs false
/-- A row of bytes of the call's own, whether it bears a mark behind its end or not. -/
def OwnB (w : World) (base e : Nat) (v : Value) (xs : List Int) : Prop :=
  (v = .slice none 0 0 ∧ xs = []) ∨ ∃ (g cap : Nat) (cur : Array Value) (fr : Nat × Nat), v = .slice (some ⟨g, 0, none⟩) xs.length cap ∧ base ≤ g ∧ w.heap[g]? = some (.cells cur e fr) ∧ (fr.2 ≤ fr.1 ∨ cur.size ≤ fr.1) ∧ xs.length ≤ cap ∧ cap ≤ maxLen ∧ cur.size = cap ∧ cur.toList.take xs.length = nums .u8 xs
theorem OwnB.slice {w : World} {base e : Nat} {v : Value} {xs : List Int} (h : OwnB w base e v xs) : ∃ A c, v = .slice A xs.length c := by
  rcases h with ⟨rfl, rfl⟩ | ⟨g, cap, cur, fr, rfl, _⟩
  · exact ⟨none, 0, rfl⟩
  · exact ⟨_, _, rfl⟩
theorem OwnB.kept {w w1 : World} {base e : Nat} {v : Value} {xs : List Int} (h : OwnB w base e v xs) (hk : ∀ k, v.ownBlock = some k → k < w.heap.size → w1.heap[k]? = w.heap[k]?) : OwnB w1 base e v xs := by
  rcases h with h | ⟨g, cap, cur, fr, rfl, hb, hg, r⟩
  · exact .inl h
  · exact .inr ⟨g, cap, cur, fr, rfl, hb, (hk g rfl (blk_lt hg)).trans hg, r⟩
theorem OwnB.below {w w1 : World} {base e : Nat} {v : Value} {xs : List Int} (h : OwnB w base e v xs) (hb : Below w.heap.size w w1) : OwnB w1 base e v xs := h.kept (fun k _ hk => hb.block k hk)
theorem OwnB.typed {w : World} {base e : Nat} {v : Value} {xs : List Int} (h : OwnB w base e v xs) (k : Nat) (hk : v.ownBlock = some k) : base ≤ k ∧ ∃ cells fr, w.heap[k]? = some (.cells cells e fr) := by
  rcases h with ⟨rfl, _⟩ | ⟨g, cap, cur, fr, rfl, hb, hg, r⟩
  · simp [Value.ownBlock] at hk
  · have : g = k := by simpa [Value.ownBlock] using hk
    subst this
    exact ⟨hb, cur, fr, hg⟩
theorem OwnB.cells {w : World} {base e : Nat} {v : Value} {xs : List Int} (h : OwnB w base e v xs) : (∃ c, v = .slice none 0 c ∧ xs = []) ∨ ∃ g cap, v = .slice (some ⟨g, 0, none⟩) xs.length cap ∧ ∀ j u, (nums .u8 xs)[j]? = some u → w.cell? ⟨g, j, none⟩ = some u := by
  rcases h with ⟨rfl, rfl⟩ | ⟨g, cap, cur, fr, rfl, hb, hg, hf, h1, h2, h3, h4⟩
  · exact .inl ⟨0, rfl, rfl⟩
  · refine .inr ⟨g, cap, rfl, fun j u hj => ?_⟩
    rw [cell_of_row w g j cur e fr hg]
    have hlt : j < xs.length := by rw [← nums_length .u8 xs]; exact (List.getElem?_eq_some_iff.1 hj).1
    rw [← h4, List.getElem?_take_of_lt hlt] at hj
    simpa using hj
theorem OwnB.string {P : Program} {w : World} {base e' : Nat} {src dst e : TypeId} {v : Value} {xs : List Int} (hs : P.underlying src = some (.slice e)) (he : P.underlying e = some (.int .u8)) (hd : P.underlying dst = some .string)
    (h : OwnB w base e' v xs) : (convert src dst v).run P w = .ok (.string (strOfNums xs)) w := by
  rcases h.cells with ⟨c, rfl, rfl⟩ | ⟨g, cap, rfl, hc⟩
  · exact run_convert_bytes_nil w src e hs he 0 c dst hd
  · refine run_convert_bytes_arg w src e hs he g 0 xs.length cap xs rfl (fun i hi => ?_) dst hd
    have := hc i (.int .u8 (xs.getD i 0)) (by simp [nums, List.getElem?_eq_getElem (show i < xs.length by omega), List.getD_eq_getElem?_getD])
    simpa using this
/-- '[]byte(s)': the new row. -/
theorem OwnB.new (w : World) (base e : Nat) (s : ByteArray) (hb : base ≤ w.heap.size) (hs : s.size ≤ maxLen) : OwnB (Lib.bytesWorld w e s) base e (.slice (some ⟨w.heap.size, 0, none⟩) s.size (grownCap w s.size 0 e)) (bytesOf s) := by
  have hge := grownCap_ge w s.size 0 e
  have hcm := grownCap_le_maxLen w s.size 0 e hs
  have hsz : (Lib.bytesCells w e s).size = grownCap w s.size 0 e := by
    simp only [Lib.bytesCells, Array.size_append, Array.size_map, Array.size_replicate]
    have : s.data.size = s.size := rfl
    omega
  have hl : (bytesOf s).length = s.size := bytesOf_length s
  refine .inr ⟨w.heap.size, _, _, _, by rw [hl], hb, Lib.bytesWorld_at_new w e s, .inr (Nat.le_refl _), by rw [hl]; exact hge, hcm, hsz, ?_⟩
  rw [hl]
  have e1 : (s.data.map fun b => Value.int .u8 b.toNat).toList = nums .u8 (bytesOf s) := by simp [nums, bytesOf]
  have e2 : (nums .u8 (bytesOf s)).length = s.size := by rw [nums_length, hl]
  simp only [Lib.bytesCells, Array.toList_append]
  rw [e1, ← e2]
  exact List.take_left
theorem bytesWorld_below (w : World) (e : TypeId) (s : ByteArray) : Below w.heap.size w (Lib.bytesWorld w e s) :=
  ⟨rfl, rfl, rfl, by rw [Lib.bytesWorld_size]; omega, fun i hi => Lib.bytesWorld_at_old w e s i hi⟩
section
variable {P : Program} {ops : Array Oper} {rest : List Oper} {o : Oper} {a : Act} {Q : Exit → Act → World → Prop} {K : Act → World → Prop}
end
end Go.Proofs.YteaealmnmmcbpaaW.PrintWords

/-
  Layer 7: the memory of the document's Link behind its checks: the result's box, the laid image, the row of code. Conditions: those told at each.
-/
namespace Go.Proofs.Yteaealmnmmcbpaa.M
open Go.RowKit Go.Proofs.YteaealmnmmcbpaaW.PrintWords Go.Proofs.YteaealmnmmcbpaaW.PrintLast Go.Proofs.Yteaealmnmmcbpaa.Num Go.Proofs.Yteaealmnmmcbpaa.Seven Go.Proofs.Yteaealmnmmcbpaa.Word1
set_option linter.unusedVariables false
set_option linter.unusedSimpArgs false
theorem nums_set (c : List Int) (i : Nat) (u : Int) : nums .u8 (c.set i u) = (nums .u8 c).set i (.int .u8 u) := by simp [nums, List.map_set]
theorem ownB_poke {W : World} {base g n cap : Nat} {c : List Int} (h : OwnB W base 5 (.slice (some ⟨g, 0, none⟩) n cap) c) (i : Nat) (u : Int) : OwnB (W.setCell ⟨g, i, none⟩ (.int .u8 u)) base 5 (.slice (some ⟨g, 0, none⟩) n cap) (c.set i u) := by
  rcases h with ⟨h, _⟩ | ⟨g', cap', cur, fr, hv, hb, hg, hf, h1, h2, h3, h4⟩
  · cases h
  · injection hv with e1 e2 e3
    injection e1 with e1
    injection e1 with e1
    subst e1 e2 e3
    refine .inr ⟨g, cap, cur.setIfInBounds i (.int .u8 u), fr, by rw [List.length_set], hb, by simp [World.setCell, Array.getElem?_modify, hg], by simpa using hf, by rw [List.length_set]; exact h1, h2, by simpa using h3, ?_⟩
    rw [List.length_set, nums_set, ← h4, Array.toList_setIfInBounds, List.take_set]
structure Rk (w W : World) (b2 b5 : Nat) (s : ByteArray) (vd vs : Value) (d : List Int) (ss : List S36) (vc : Value) (c : List Int) : Prop where
  below : Below w.heap.size w W
  res : W.heap[b2]? = some (.cells #[.string ⟨#[]⟩, .slice none 0 0, .slice none 0 0] 29 (0, 0))
  im : W.heap[b5]? = some (.cells #[.string s, vd, vs] 29 (0, 0))
  ne : b2 ≠ b5
  ge2 : w.heap.size ≤ b2
  ge5 : w.heap.size ≤ b5
  rd : Kd.R (Kd.int .i64) 2 W w.heap.size (fun _ => True) vd d
  rs : Kd.R k36 36 W w.heap.size (fun _ => True) vs ss
  code : OwnB W w.heap.size 5 vc c
section
variable {w W W' : World} {b2 b5 : Nat} {s : ByteArray} {vd vs vc : Value} {d c : List Int} {ss : List S36}
theorem Rk.next (H : Rk w W b2 b5 s vd vs d ss vc c) (hb : Below W.heap.size W W') : Rk w W' b2 b5 s vd vs d ss vc c :=
  ⟨below_in H.below hb, blk_below H.res hb, blk_below H.im hb, H.ne, H.ge2, H.ge5, Kd.R_below H.rd hb, Kd.R_below H.rs hb, H.code.below hb⟩
theorem Rk.alloc (H : Rk w W b2 b5 s vd vs d ss vc c) (o : Obj) : Rk w (W.alloc o) b2 b5 s vd vs d ss vc c := H.next (below_alloc (Below.refl W.heap.size W) o)
theorem ne_typed {g k : Nat} {t t' : TypeId} {cs cs' : Array Value} {fr fr' : Nat × Nat} (h : W.heap[g]? = some (.cells cs t fr)) (h' : W.heap[k]? = some (.cells cs' t' fr')) (hne : t ≠ t') : g ≠ k := by
  rintro rfl
  rw [h] at h'
  injection h' with h'
  injection h' with _ h' _
  exact hne h'
theorem Rk.poke (H : Rk w W b2 b5 s vd vs d ss vc c) {g n cap : Nat} (hv : vc = .slice (some ⟨g, 0, none⟩) n cap) (i : Nat) (u : Int) : Rk w (W.setCell ⟨g, i, none⟩ (.int .u8 u)) b2 b5 s vd vs d ss vc (c.set i u) := by
  subst hv
  obtain ⟨hge, cells, fr, hgc⟩ := H.code.typed g rfl
  have hR : ∀ {α : Type} {k : Kd α} {e : Nat} {v : Value} {xs : List α}, Kd.R k e W w.heap.size (fun _ => True) v xs → e ≠ 5 → k.E = [] → Kd.R k e (W.setCell ⟨g, i, none⟩ (.int .u8 u)) w.heap.size (fun _ => True) v xs := by
    intro α k e v xs h he hE
    refine Kd.R_mono (Kd.R_step (Kd.R_bound h) (fun q hq hlt => ?_)) (fun _ _ => trivial)
    obtain ⟨_, _, _, t, ht, cs, hc⟩ := hq
    rw [hE] at ht
    have : t = e := by simpa using ht
    subst this
    exact Below.heap_setCell W _ _ q (ne_typed hc hgc he)
  exact ⟨H.below.setCell hge _, blk_far H.res (ne_typed H.res hgc (by decide)) _, blk_far H.im (ne_typed H.im hgc (by decide)) _, H.ne, H.ge2, H.ge5, hR H.rd (by decide) rfl, hR H.rs (by decide) rfl, ownB_poke H.code i u⟩
theorem Rk.pokes {g n cap : Nat} (hv : vc = .slice (some ⟨g, 0, none⟩) n cap) : ∀ (us : List Int) (at_ : Nat) (W : World) (c : List Int), Rk w W b2 b5 s vd vs d ss vc c → Rk w (W.setCells g at_ (nums .u8 us)) b2 b5 s vd vs d ss vc (pokes c at_ us)
  | [], _, _, _, H => H
  | u :: us, at_, W, c, H => Rk.pokes hv us (at_ + 1) _ _ (H.poke hv at_ u)
/-- The copy of some bytes into the row of code. -/
theorem Rk.copy_run {base g n cap at_ : Nat} {code : List Int} (h : OwnB W base 5 (.slice (some ⟨g, 0, none⟩) n cap) code) (us : List Int) (hb : Bs us) (hat : at_ + us.length ≤ n) (dCap : Nat) (ty : TypeId) :
    (Builtin.copy_ #[57, 9] ty #[.slice (some ⟨g, at_, none⟩) (n - at_) dCap, .string (strOfNums us)]).run Try.prog W = .ok (goInt us.length) (W.setCells g at_ (nums .u8 us)) := by
  have hsz : (strOfNums us).size = us.length := by rw [← bytesOf_length, bytesOf_str hb]
  have hc : ∀ j, j < us.length → (W.cell? ⟨g, at_ + j, none⟩).isSome = true ∧ W.frozen? ⟨g, at_ + j, none⟩ = false := by
    intro j hj
    rcases h with ⟨h, _⟩ | ⟨g', cap', cur, fr, hv, _, hg, hf, h1, h2, h3, h4⟩
    · cases h
    · injection hv with e1 e2 e3
      injection e1 with e1
      injection e1 with e1
      subst e1 e2 e3
      have hlt : at_ + j < cur.size := by omega
      refine ⟨by rw [cell_of_row W g (at_ + j) cur 5 fr hg, Array.getElem?_eq_getElem hlt]; rfl, ?_⟩
      simp only [World.frozen?, hg]
      simp
      omega
  have hr := run_copy_string (P := Try.prog) W 57 9 ty 5 g at_ (n - at_) dCap (strOfNums us) Try.underlying57 (fun w => by kernel_rfl) (by rw [hsz]; omega) (by rw [hsz]; exact fun j hj => (hc j hj).1) (by rw [hsz]; exact fun j hj => (hc j hj).2)
  rw [hr, hsz]
  have e : ((strOfNums us).data.toList.map fun x => Value.int .u8 (x.toNat : Int)) = nums .u8 us := by
    conv => rhs; rw [← bytesOf_str hb]
    simp [bytesOf, nums, List.map_map, Function.comp_def]
  rw [e]
end
end Go.Proofs.Yteaealmnmmcbpaa.M

-- Written by a program of this session (wip/ownprint.py) over the translation. Lean checks it.
namespace Go.Proofs.Yteaealmnmmcbpaa.M
open Go.RowKit Go.Proofs.YteaealmnmmcbpaaW.PrintWords Go.Proofs.YteaealmnmmcbpaaW.PrintLast
set_option linter.unusedVariables false
set_option linter.unusedSimpArgs false

/-! ### cotterref06_named: function 37 -/
def cotterref06_named.f (a0 : ByteArray) : Option (Bool) := if (a0.size : Int) ≥ 1 then (some (decide ((a0.size : Int) ≤ 28))) else (some false)
set_option maxHeartbeats 8000000 in
set_option maxRecDepth 100000 in
theorem cotterref06_named.calls (a0 : ByteArray) (r : Bool) (w : World) (h : cotterref06_named.f a0 = some r) :
    Calls Try.prog 37 #[.string a0] w fun e w' => e = .returned (.bool r) ∧ Drawn0 w w' := by
  have H : (if (a0.size : Int) ≥ 1 then (some (decide ((a0.size : Int) ≤ 28))) else (some false)) = some r := h
  clear h
  by_cases c2 : (a0.size : Int) ≥ 1
  · rw [if_pos c2] at H
    have c2b0 : decide (1 ≤ (a0.size : Int)) = true := decide_eq_true c2
    have c2b1 : decide (1 ≤ a0.size) = true := decide_eq_true (by omega)
    clear c2
    obtain rfl := Option.some.inj H
    go_enter Try.func37, Try.ntmps37
    go_wp2
    go_ret
    exact ⟨by first | rfl | (simp; done) | (simp [*]; done), by repeat (first | exact Drawn0.refl _ | apply Drawn0.step)⟩
  · rw [if_neg c2] at H
    have c2b0 : decide (1 ≤ (a0.size : Int)) = false := decide_eq_false c2
    have c2b1 : decide (1 ≤ a0.size) = false := decide_eq_false (by omega)
    clear c2
    obtain rfl := Option.some.inj H
    go_enter Try.func37, Try.ntmps37
    go_wp2
    go_ret
    exact ⟨by first | rfl | (simp; done) | (simp [*]; done), by repeat (first | exact Drawn0.refl _ | apply Drawn0.step)⟩

end Go.Proofs.Yteaealmnmmcbpaa.M

-- Written by a program of this session (wip/ownprint.py) over the translation. Lean checks it.
namespace Go.Proofs.Yteaealmnmmcbpaa.M
open Go.RowKit Go.Proofs.YteaealmnmmcbpaaW.PrintWords Go.Proofs.YteaealmnmmcbpaaW.PrintLast
set_option linter.unusedVariables false
set_option linter.unusedSimpArgs false

/-! ### cotterref06_Syms: function 36 -/
mutual
def cotterref06_Syms.l0 : Nat → List (S36) → Int → Int → Int → Option (Bool)
  | 0, _, _, _, _ => none
  | k + 1, x0, x1, x2, x7 => if x7 < (x0.length : Int) then (if 0 ≤ x7 then ((cotterref06_named.f ((rd_T36 x0 x7).f0)).bind fun t109 => (if t109 = true then (if ((rd_T36 x0 x7).f1) < 1 then (cotterref06_Syms.j1 k x0 x1 x2 x7 true ((rd_T36 x0 x7).f0) ((rd_T36 x0 x7).f1) ((rd_T36 x0 x7).f2)) else (if ((rd_T36 x0 x7).f1) > 3 then (cotterref06_Syms.j1 k x0 x1 x2 x7 true ((rd_T36 x0 x7).f0) ((rd_T36 x0 x7).f1) ((rd_T36 x0 x7).f2)) else (if ((rd_T36 x0 x7).f2) < 0 then (cotterref06_Syms.j1 k x0 x1 x2 x7 true ((rd_T36 x0 x7).f0) ((rd_T36 x0 x7).f1) ((rd_T36 x0 x7).f2)) else (if ((rd_T36 x0 x7).f1) = 2 then (if ((rd_T36 x0 x7).f2) ≥ x2 then (cotterref06_Syms.j1 k x0 x1 x2 x7 true ((rd_T36 x0 x7).f0) ((rd_T36 x0 x7).f1) ((rd_T36 x0 x7).f2)) else (cotterref06_Syms.j1 k x0 x1 x2 x7 false ((rd_T36 x0 x7).f0) ((rd_T36 x0 x7).f1) ((rd_T36 x0 x7).f2))) else (cotterref06_Syms.j1 k x0 x1 x2 x7 (decide (((rd_T36 x0 x7).f2) ≥ x1)) ((rd_T36 x0 x7).f0) ((rd_T36 x0 x7).f1) ((rd_T36 x0 x7).f2)))))) else (cotterref06_Syms.j1 k x0 x1 x2 x7 true ((rd_T36 x0 x7).f0) ((rd_T36 x0 x7).f1) ((rd_T36 x0 x7).f2)))) else (none)) else (some true)
def cotterref06_Syms.j1 : Nat → List (S36) → Int → Int → Int → Bool → ByteArray → Int → Int → Option (Bool)
  | 0, _, _, _, _, _, _, _, _ => none
  | k + 1, x0, x1, x2, x7, x63, x109000, x109001, x109002 => if x63 = true then (some false) else (cotterref06_Syms.l1 k x0 x1 x2 x7 0 x109000 x109001 x109002)
def cotterref06_Syms.l1 : Nat → List (S36) → Int → Int → Int → Int → ByteArray → Int → Int → Option (Bool)
  | 0, _, _, _, _, _, _, _, _ => none
  | k + 1, x0, x1, x2, x7, x9, x109000, x109001, x109002 => if x9 < x7 then (if 0 ≤ x9 then (if x9 < (x0.length : Int) then (if ((rd_T36 x0 x9).f0).toList = x109000.toList then (some false) else (cotterref06_Syms.l1 k x0 x1 x2 x7 (wrap64 (x9 + 1)) x109000 x109001 x109002)) else (none)) else (none)) else (cotterref06_Syms.l0 k x0 x1 x2 (wrap64 (x7 + 1)))
end
def cotterref06_Syms.f (k : Nat) (l0 : List (S36)) (a1 : Int) (a2 : Int) : Option (Bool) := if (l0.length : Int) > 1000 then (some false) else (cotterref06_Syms.l0 k l0 a1 a2 0)
set_option maxHeartbeats 8000000 in
set_option maxRecDepth 100000 in
theorem cotterref06_Syms.calls (k : Nat) (A0 : Option Addr) (c0 : Nat) (l0 : List (S36)) (a1 : Int) (a2 : Int) (r : Bool) (w : World) (hr0 : Kd.C k36 w A0 l0.length l0) (hc0 : l0.length ≤ c0) (h : cotterref06_Syms.f k l0 a1 a2 = some r) :
    Calls Try.prog 36 #[.slice A0 l0.length c0, .int .i64 a1, .int .i64 a2] w fun e w' => e = .returned (.bool r) ∧ Below w.heap.size w w' := by
  have hu36 := Try.underlying36
  have HR0 := Aside0.mk hr0
  have HC0 := Aside0.mk hc0
  clear hr0 hc0
  have HB := Aside0.mk (Below.refl w.heap.size w)
  have H : (if (l0.length : Int) > 1000 then (some false) else (cotterref06_Syms.l0 k l0 a1 a2 0)) = some r := h
  clear h
  by_cases c4 : (l0.length : Int) > 1000
  · rw [if_pos c4] at H
    have c4b0 : decide (1000 < (l0.length : Int)) = true := decide_eq_true c4
    have c4b1 : decide (1000 < l0.length) = true := decide_eq_true (by omega)
    clear c4
    obtain rfl := Option.some.inj H
    go_enter Try.func36, Try.ntmps36
    go_wp2
    repeat (go_quiet (fail); try go_wp2)
    go_ret
    exact ⟨by first | rfl | (simp [errW_none, errW_some] <;> rfl) | (simp [*, errW_none, errW_some] <;> rfl), by repeat (first | (with_reducible first | exact HB.out | apply below_alloc | apply pw_below_drewN | apply below_drew1) | exact HB.out)⟩
  · rw [if_neg c4] at H
    have c4b0 : decide (1000 < (l0.length : Int)) = false := decide_eq_false c4
    have c4b1 : decide (1000 < l0.length) = false := decide_eq_false (by omega)
    clear c4
    have H' := Aside0.mk H
    clear H
    go_enter Try.func36, Try.ntmps36
    go_wp2
    repeat (go_quiet (fail); try go_wp2)
    go_loopg [7] k (fun kq v7 w' => ∃ (x7_1 : Int), v7 = .int .i64 x7_1 ∧ Aside0 (cotterref06_Syms.l0 kq l0 a1 a2 x7_1 = some r) ∧ Aside0 (kq ≤ k) ∧ Aside0 (Below w.heap.size w w'))
    case atStart => exact ⟨(0), (by first | rfl | (simp; done) | (simp [*]; done)), H', ⟨Nat.le_refl _⟩, ⟨by repeat (first | (with_reducible first | exact HB.out | apply below_alloc | apply pw_below_drewN | apply below_drew1) | exact HB.out)⟩⟩
    case round =>
      clear H'
      try clear p2
      try clear c3
      try clear c4
      try clear c4b0
      try clear c4b1
      obtain ⟨x7_1, rfl, HA, HK1, HB⟩ := hrel
      cases gk with
      | zero => exact absurd HA.out (by simp [cotterref06_Syms.l0])
      | succ k1 =>
        have H := HA.out
        clear HA
        simp only [cotterref06_Syms.l0] at H
        by_cases c5 : x7_1 < (l0.length : Int)
        · rw [if_pos c5] at H
          have c5b0 : decide (x7_1 < (l0.length : Int)) = true := decide_eq_true c5
          clear c5
          by_cases c6 : 0 ≤ x7_1
          · rw [if_pos c6] at H
            have c6b0 : decide (0 ≤ x7_1) = true := decide_eq_true c6
            clear c6
            have HC7 := Aside0.mk H
            clear H
            have p107 : 0 ≤ (x7_1 : Int) := of_decide_eq_true (by first | (with_reducible assumption) | assumption)
            have q107 : x7_1 < (l0.length : Int) := of_decide_eq_true (by first | (with_reducible assumption) | assumption)
            obtain ⟨ad107, e107, hx107_0, hx107_1, hx107_2⟩ := at_T36 HR0.out x7_1 p107 q107
            cases e107
            replace hx107_0 := (HB.out.cell (World.block_lt_of_cell? w _ hx107_0)).trans hx107_0
            replace hx107_1 := (HB.out.cell (World.block_lt_of_cell? w _ hx107_1)).trans hx107_1
            replace hx107_2 := (HB.out.cell (World.block_lt_of_cell? w _ hx107_2)).trans hx107_2
            replace p107 := eq_true p107
            replace q107 := eq_true q107
            go_upto_region 7 with (first | ((with_reducible refine gate_dst (N := 8) rfl ?_); refine box_event ?hg (N := 8) ?hd (cs := #[.string (⟨#[]⟩ : ByteArray), .int .i64 0, .int .i64 0]) (t := 36) ?hr ?_; (case hd => rfl); (case hg => rfl); (case hr => first | (go_simp; done) | (go_simp; rfl)); intro gb108 hg w8 hbox hb; have n0_ := Aside0.mk (below_step (by repeat (first | (with_reducible first | exact HB.out | apply below_alloc | apply pw_below_drewN | apply below_drew1) | exact HB.out)) hb); have n1_ := Aside0.mk (hbox); have n2_ := Aside0.mk ((by rw [hg]; exact (below_size (by repeat (first | (with_reducible first | exact HB.out | apply below_alloc | apply pw_below_drewN | apply below_drew1) | exact HB.out))) : w.heap.size ≤ gb108)); have n3_ := Aside0.mk ((by rw [hg]; exact (below_size (by repeat (first | (with_reducible first | exact HB.out | apply below_alloc | apply pw_below_drewN | apply below_drew1) | exact HB.out))) : w.heap.size ≤ gb108)); clear HB; have HB := n0_; have BK108 := n1_; have GW108 := n2_; have GE108 := n3_; clear n0_ n1_ n2_ n3_; clear hb hbox hg; have hcz9_0 : w8.cell? ⟨gb108, 0, none⟩ = some (.string (⟨#[]⟩ : ByteArray)) := (blk_cell BK108.out 0).trans rfl; have hcz9_1 : w8.cell? ⟨gb108, 1, none⟩ = some (.int .i64 0) := (blk_cell BK108.out 1).trans rfl; have hcz9_2 : w8.cell? ⟨gb108, 2, none⟩ = some (.int .i64 0) := (blk_cell BK108.out 2).trans rfl; have hfz9_0 := blk_frozen BK108.out 0; have hfz9_1 := blk_frozen BK108.out 1; have hfz9_2 := blk_frozen BK108.out 2))
            repeat (go_quiet (first | ((with_reducible refine gate_dst (N := 8) rfl ?_); refine box_event ?hg (N := 8) ?hd (cs := #[.string (⟨#[]⟩ : ByteArray), .int .i64 0, .int .i64 0]) (t := 36) ?hr ?_; (case hd => rfl); (case hg => rfl); (case hr => first | (go_simp; done) | (go_simp; rfl)); intro gb108 hg w8 hbox hb; have n0_ := Aside0.mk (below_step (by repeat (first | (with_reducible first | exact HB.out | apply below_alloc | apply pw_below_drewN | apply below_drew1) | exact HB.out)) hb); have n1_ := Aside0.mk (hbox); have n2_ := Aside0.mk ((by rw [hg]; exact (below_size (by repeat (first | (with_reducible first | exact HB.out | apply below_alloc | apply pw_below_drewN | apply below_drew1) | exact HB.out))) : w.heap.size ≤ gb108)); have n3_ := Aside0.mk ((by rw [hg]; exact (below_size (by repeat (first | (with_reducible first | exact HB.out | apply below_alloc | apply pw_below_drewN | apply below_drew1) | exact HB.out))) : w.heap.size ≤ gb108)); clear HB; have HB := n0_; have BK108 := n1_; have GW108 := n2_; have GE108 := n3_; clear n0_ n1_ n2_ n3_; clear hb hbox hg; have hcz9_0 : w8.cell? ⟨gb108, 0, none⟩ = some (.string (⟨#[]⟩ : ByteArray)) := (blk_cell BK108.out 0).trans rfl; have hcz9_1 : w8.cell? ⟨gb108, 1, none⟩ = some (.int .i64 0) := (blk_cell BK108.out 1).trans rfl; have hcz9_2 : w8.cell? ⟨gb108, 2, none⟩ = some (.int .i64 0) := (blk_cell BK108.out 2).trans rfl; have hfz9_0 := blk_frozen BK108.out 0; have hfz9_1 := blk_frozen BK108.out 1; have hfz9_2 := blk_frozen BK108.out 2)); go_upto_region 7 with (first | ((with_reducible refine gate_dst (N := 8) rfl ?_); refine box_event ?hg (N := 8) ?hd (cs := #[.string (⟨#[]⟩ : ByteArray), .int .i64 0, .int .i64 0]) (t := 36) ?hr ?_; (case hd => rfl); (case hg => rfl); (case hr => first | (go_simp; done) | (go_simp; rfl)); intro gb108 hg w8 hbox hb; have n0_ := Aside0.mk (below_step (by repeat (first | (with_reducible first | exact HB.out | apply below_alloc | apply pw_below_drewN | apply below_drew1) | exact HB.out)) hb); have n1_ := Aside0.mk (hbox); have n2_ := Aside0.mk ((by rw [hg]; exact (below_size (by repeat (first | (with_reducible first | exact HB.out | apply below_alloc | apply pw_below_drewN | apply below_drew1) | exact HB.out))) : w.heap.size ≤ gb108)); have n3_ := Aside0.mk ((by rw [hg]; exact (below_size (by repeat (first | (with_reducible first | exact HB.out | apply below_alloc | apply pw_below_drewN | apply below_drew1) | exact HB.out))) : w.heap.size ≤ gb108)); clear HB; have HB := n0_; have BK108 := n1_; have GW108 := n2_; have GE108 := n3_; clear n0_ n1_ n2_ n3_; clear hb hbox hg; have hcz9_0 : w8.cell? ⟨gb108, 0, none⟩ = some (.string (⟨#[]⟩ : ByteArray)) := (blk_cell BK108.out 0).trans rfl; have hcz9_1 : w8.cell? ⟨gb108, 1, none⟩ = some (.int .i64 0) := (blk_cell BK108.out 1).trans rfl; have hcz9_2 : w8.cell? ⟨gb108, 2, none⟩ = some (.int .i64 0) := (blk_cell BK108.out 2).trans rfl; have hfz9_0 := blk_frozen BK108.out 0; have hfz9_1 := blk_frozen BK108.out 1; have hfz9_2 := blk_frozen BK108.out 2)))
            (try simp only [Act.put, List.setIfInBounds_toArray, List.set_cons_zero, List.set_cons_succ])
            go_cut [63] (fun v63 wc => ∃ (kq : Nat) (x63_6 : Bool), v63 = .bool x63_6 ∧ Aside0 (cotterref06_Syms.j1 kq l0 a1 a2 x7_1 x63_6 ((rd_T36 l0 x7_1).f0) ((rd_T36 l0 x7_1).f1) ((rd_T36 l0 x7_1).f2) = some r) ∧ Aside0 (kq ≤ k1) ∧ Aside0 (wc.heap[gb108]? = some (.cells #[.string ((rd_T36 l0 x7_1).f0), .int .i64 ((rd_T36 l0 x7_1).f1), .int .i64 ((rd_T36 l0 x7_1).f2)] 36 (0, 0))) ∧ Aside0 (Below w.heap.size w wc))
            case first =>
              have H := HC7.out
              clear HC7
              replace H := Option.bind_eq_some_iff.mp H
              obtain ⟨t109, A100, H⟩ := H
              replace H : (if t109 = true then (if ((rd_T36 l0 x7_1).f1) < 1 then (cotterref06_Syms.j1 k1 l0 a1 a2 x7_1 true ((rd_T36 l0 x7_1).f0) ((rd_T36 l0 x7_1).f1) ((rd_T36 l0 x7_1).f2)) else (if ((rd_T36 l0 x7_1).f1) > 3 then (cotterref06_Syms.j1 k1 l0 a1 a2 x7_1 true ((rd_T36 l0 x7_1).f0) ((rd_T36 l0 x7_1).f1) ((rd_T36 l0 x7_1).f2)) else (if ((rd_T36 l0 x7_1).f2) < 0 then (cotterref06_Syms.j1 k1 l0 a1 a2 x7_1 true ((rd_T36 l0 x7_1).f0) ((rd_T36 l0 x7_1).f1) ((rd_T36 l0 x7_1).f2)) else (if ((rd_T36 l0 x7_1).f1) = 2 then (if ((rd_T36 l0 x7_1).f2) ≥ a2 then (cotterref06_Syms.j1 k1 l0 a1 a2 x7_1 true ((rd_T36 l0 x7_1).f0) ((rd_T36 l0 x7_1).f1) ((rd_T36 l0 x7_1).f2)) else (cotterref06_Syms.j1 k1 l0 a1 a2 x7_1 false ((rd_T36 l0 x7_1).f0) ((rd_T36 l0 x7_1).f1) ((rd_T36 l0 x7_1).f2))) else (cotterref06_Syms.j1 k1 l0 a1 a2 x7_1 (decide (((rd_T36 l0 x7_1).f2) ≥ a1)) ((rd_T36 l0 x7_1).f0) ((rd_T36 l0 x7_1).f1) ((rd_T36 l0 x7_1).f2)))))) else (cotterref06_Syms.j1 k1 l0 a1 a2 x7_1 true ((rd_T36 l0 x7_1).f0) ((rd_T36 l0 x7_1).f1) ((rd_T36 l0 x7_1).f2))) = some r := H
              have A10 := Aside0.mk A100
              clear A100
              by_cases c11 : t109 = true
              · subst c11
                have H1 : (if ((rd_T36 l0 x7_1).f1) < 1 then (cotterref06_Syms.j1 k1 l0 a1 a2 x7_1 true ((rd_T36 l0 x7_1).f0) ((rd_T36 l0 x7_1).f1) ((rd_T36 l0 x7_1).f2)) else (if ((rd_T36 l0 x7_1).f1) > 3 then (cotterref06_Syms.j1 k1 l0 a1 a2 x7_1 true ((rd_T36 l0 x7_1).f0) ((rd_T36 l0 x7_1).f1) ((rd_T36 l0 x7_1).f2)) else (if ((rd_T36 l0 x7_1).f2) < 0 then (cotterref06_Syms.j1 k1 l0 a1 a2 x7_1 true ((rd_T36 l0 x7_1).f0) ((rd_T36 l0 x7_1).f1) ((rd_T36 l0 x7_1).f2)) else (if ((rd_T36 l0 x7_1).f1) = 2 then (if ((rd_T36 l0 x7_1).f2) ≥ a2 then (cotterref06_Syms.j1 k1 l0 a1 a2 x7_1 true ((rd_T36 l0 x7_1).f0) ((rd_T36 l0 x7_1).f1) ((rd_T36 l0 x7_1).f2)) else (cotterref06_Syms.j1 k1 l0 a1 a2 x7_1 false ((rd_T36 l0 x7_1).f0) ((rd_T36 l0 x7_1).f1) ((rd_T36 l0 x7_1).f2))) else (cotterref06_Syms.j1 k1 l0 a1 a2 x7_1 (decide (((rd_T36 l0 x7_1).f2) ≥ a1)) ((rd_T36 l0 x7_1).f0) ((rd_T36 l0 x7_1).f1) ((rd_T36 l0 x7_1).f2)))))) = some r := by rw [if_pos rfl] at H; exact H
                clear H
                have H := H1
                clear H1
                by_cases c12 : ((rd_T36 l0 x7_1).f1) < 1
                · rw [if_pos c12] at H
                  have c12b0 : decide (((rd_T36 l0 x7_1).f1) < 1) = true := decide_eq_true c12
                  clear c12
                  (first | rw [c12b0] | (simp only [i64_w, i32_w]; rw [c12b0]) | skip)
                  have H' := Aside0.mk H
                  clear H
                  have hcz13_0 : w8.cell? ⟨gb108, 0, none⟩ = some (.string (⟨#[]⟩ : ByteArray)) := (blk_cell BK108.out 0).trans rfl
                  have hcz13_1 : w8.cell? ⟨gb108, 1, none⟩ = some (.int .i64 0) := (blk_cell BK108.out 1).trans rfl
                  have hcz13_2 : w8.cell? ⟨gb108, 2, none⟩ = some (.int .i64 0) := (blk_cell BK108.out 2).trans rfl
                  have hfz13_0 := blk_frozen BK108.out 0
                  have hfz13_1 := blk_frozen BK108.out 1
                  have hfz13_2 := blk_frozen BK108.out 2
                  go_wp2_with (first | (go_at_call 37; (with_reducible refine (cotterref06_named.calls ((rd_T36 l0 x7_1).f0) true _ A10.out).mono ?_); rintro e w' ⟨rfl, ⟨nd, rfl⟩⟩; (try first | exact ⟨rfl, _, World.drewN_drewN _ _ _⟩ | exact ⟨rfl, _, Eq.trans (World.drewN_drewN _ _ _) (congrArg (World.drewN _) (Nat.add_assoc _ _ _))⟩)))
                  repeat (go_quiet (first | (go_at_call 37; (with_reducible refine (cotterref06_named.calls ((rd_T36 l0 x7_1).f0) true _ A10.out).mono ?_); rintro e w' ⟨rfl, ⟨nd, rfl⟩⟩; (try first | exact ⟨rfl, _, World.drewN_drewN _ _ _⟩ | exact ⟨rfl, _, Eq.trans (World.drewN_drewN _ _ _) (congrArg (World.drewN _) (Nat.add_assoc _ _ _))⟩))); try go_wp2_with (first | (go_at_call 37; (with_reducible refine (cotterref06_named.calls ((rd_T36 l0 x7_1).f0) true _ A10.out).mono ?_); rintro e w' ⟨rfl, ⟨nd, rfl⟩⟩; (try first | exact ⟨rfl, _, World.drewN_drewN _ _ _⟩ | exact ⟨rfl, _, Eq.trans (World.drewN_drewN _ _ _) (congrArg (World.drewN _) (Nat.add_assoc _ _ _))⟩))))
                  go_meet
                  case rel => exact ⟨_, (true), (by first | rfl | (simp; done) | (simp [*]; done)), H', ⟨by have := HK1.out; first | omega | exact Nat.le_refl _⟩, ⟨by (with_reducible repeat (first | refine blk_drewN ?_ _ | refine blk_drew ?_ | refine blk_alloc ?_ _)); refine blk_put (cs := #[.string ((rd_T36 l0 x7_1).f0), .int .i64 ((rd_T36 l0 x7_1).f1), .int .i64 0]) ?_ 2 _ rfl; (with_reducible repeat (first | refine blk_drewN ?_ _ | refine blk_drew ?_ | refine blk_alloc ?_ _)); refine blk_put (cs := #[.string ((rd_T36 l0 x7_1).f0), .int .i64 0, .int .i64 0]) ?_ 1 _ rfl; (with_reducible repeat (first | refine blk_drewN ?_ _ | refine blk_drew ?_ | refine blk_alloc ?_ _)); refine blk_put (cs := #[.string (⟨#[]⟩ : ByteArray), .int .i64 0, .int .i64 0]) ?_ 0 _ rfl; (with_reducible repeat (first | refine blk_drewN ?_ _ | refine blk_drew ?_ | refine blk_alloc ?_ _)); exact BK108.out⟩, ⟨by repeat (first | (with_reducible first | exact HB.out | apply below_alloc | apply pw_below_drewN | apply below_drew1 | refine below_set ?_ GE108.out) | exact HB.out)⟩⟩
                · rw [if_neg c12] at H
                  have c12b0 : decide (((rd_T36 l0 x7_1).f1) < 1) = false := decide_eq_false c12
                  clear c12
                  (first | rw [c12b0] | (simp only [i64_w, i32_w]; rw [c12b0]) | skip)
                  by_cases c14 : ((rd_T36 l0 x7_1).f1) > 3
                  · rw [if_pos c14] at H
                    have c14b0 : decide (3 < ((rd_T36 l0 x7_1).f1)) = true := decide_eq_true c14
                    clear c14
                    have H' := Aside0.mk H
                    clear H
                    have hcz15_0 : w8.cell? ⟨gb108, 0, none⟩ = some (.string (⟨#[]⟩ : ByteArray)) := (blk_cell BK108.out 0).trans rfl
                    have hcz15_1 : w8.cell? ⟨gb108, 1, none⟩ = some (.int .i64 0) := (blk_cell BK108.out 1).trans rfl
                    have hcz15_2 : w8.cell? ⟨gb108, 2, none⟩ = some (.int .i64 0) := (blk_cell BK108.out 2).trans rfl
                    have hfz15_0 := blk_frozen BK108.out 0
                    have hfz15_1 := blk_frozen BK108.out 1
                    have hfz15_2 := blk_frozen BK108.out 2
                    go_wp2_with (first | (go_at_call 37; (with_reducible refine (cotterref06_named.calls ((rd_T36 l0 x7_1).f0) true _ A10.out).mono ?_); rintro e w' ⟨rfl, ⟨nd, rfl⟩⟩; (try first | exact ⟨rfl, _, World.drewN_drewN _ _ _⟩ | exact ⟨rfl, _, Eq.trans (World.drewN_drewN _ _ _) (congrArg (World.drewN _) (Nat.add_assoc _ _ _))⟩)))
                    repeat (go_quiet (first | (go_at_call 37; (with_reducible refine (cotterref06_named.calls ((rd_T36 l0 x7_1).f0) true _ A10.out).mono ?_); rintro e w' ⟨rfl, ⟨nd, rfl⟩⟩; (try first | exact ⟨rfl, _, World.drewN_drewN _ _ _⟩ | exact ⟨rfl, _, Eq.trans (World.drewN_drewN _ _ _) (congrArg (World.drewN _) (Nat.add_assoc _ _ _))⟩))); try go_wp2_with (first | (go_at_call 37; (with_reducible refine (cotterref06_named.calls ((rd_T36 l0 x7_1).f0) true _ A10.out).mono ?_); rintro e w' ⟨rfl, ⟨nd, rfl⟩⟩; (try first | exact ⟨rfl, _, World.drewN_drewN _ _ _⟩ | exact ⟨rfl, _, Eq.trans (World.drewN_drewN _ _ _) (congrArg (World.drewN _) (Nat.add_assoc _ _ _))⟩))))
                    go_meet
                    case rel => exact ⟨_, (true), (by first | rfl | (simp; done) | (simp [*]; done)), H', ⟨by have := HK1.out; first | omega | exact Nat.le_refl _⟩, ⟨by (with_reducible repeat (first | refine blk_drewN ?_ _ | refine blk_drew ?_ | refine blk_alloc ?_ _)); refine blk_put (cs := #[.string ((rd_T36 l0 x7_1).f0), .int .i64 ((rd_T36 l0 x7_1).f1), .int .i64 0]) ?_ 2 _ rfl; (with_reducible repeat (first | refine blk_drewN ?_ _ | refine blk_drew ?_ | refine blk_alloc ?_ _)); refine blk_put (cs := #[.string ((rd_T36 l0 x7_1).f0), .int .i64 0, .int .i64 0]) ?_ 1 _ rfl; (with_reducible repeat (first | refine blk_drewN ?_ _ | refine blk_drew ?_ | refine blk_alloc ?_ _)); refine blk_put (cs := #[.string (⟨#[]⟩ : ByteArray), .int .i64 0, .int .i64 0]) ?_ 0 _ rfl; (with_reducible repeat (first | refine blk_drewN ?_ _ | refine blk_drew ?_ | refine blk_alloc ?_ _)); exact BK108.out⟩, ⟨by repeat (first | (with_reducible first | exact HB.out | apply below_alloc | apply pw_below_drewN | apply below_drew1 | refine below_set ?_ GE108.out) | exact HB.out)⟩⟩
                  · rw [if_neg c14] at H
                    have c14b0 : decide (3 < ((rd_T36 l0 x7_1).f1)) = false := decide_eq_false c14
                    clear c14
                    by_cases c16 : ((rd_T36 l0 x7_1).f2) < 0
                    · rw [if_pos c16] at H
                      have c16b0 : decide (((rd_T36 l0 x7_1).f2) < 0) = true := decide_eq_true c16
                      clear c16
                      have H' := Aside0.mk H
                      clear H
                      have hcz17_0 : w8.cell? ⟨gb108, 0, none⟩ = some (.string (⟨#[]⟩ : ByteArray)) := (blk_cell BK108.out 0).trans rfl
                      have hcz17_1 : w8.cell? ⟨gb108, 1, none⟩ = some (.int .i64 0) := (blk_cell BK108.out 1).trans rfl
                      have hcz17_2 : w8.cell? ⟨gb108, 2, none⟩ = some (.int .i64 0) := (blk_cell BK108.out 2).trans rfl
                      have hfz17_0 := blk_frozen BK108.out 0
                      have hfz17_1 := blk_frozen BK108.out 1
                      have hfz17_2 := blk_frozen BK108.out 2
                      go_wp2_with (first | (go_at_call 37; (with_reducible refine (cotterref06_named.calls ((rd_T36 l0 x7_1).f0) true _ A10.out).mono ?_); rintro e w' ⟨rfl, ⟨nd, rfl⟩⟩; (try first | exact ⟨rfl, _, World.drewN_drewN _ _ _⟩ | exact ⟨rfl, _, Eq.trans (World.drewN_drewN _ _ _) (congrArg (World.drewN _) (Nat.add_assoc _ _ _))⟩)))
                      repeat (go_quiet (first | (go_at_call 37; (with_reducible refine (cotterref06_named.calls ((rd_T36 l0 x7_1).f0) true _ A10.out).mono ?_); rintro e w' ⟨rfl, ⟨nd, rfl⟩⟩; (try first | exact ⟨rfl, _, World.drewN_drewN _ _ _⟩ | exact ⟨rfl, _, Eq.trans (World.drewN_drewN _ _ _) (congrArg (World.drewN _) (Nat.add_assoc _ _ _))⟩))); try go_wp2_with (first | (go_at_call 37; (with_reducible refine (cotterref06_named.calls ((rd_T36 l0 x7_1).f0) true _ A10.out).mono ?_); rintro e w' ⟨rfl, ⟨nd, rfl⟩⟩; (try first | exact ⟨rfl, _, World.drewN_drewN _ _ _⟩ | exact ⟨rfl, _, Eq.trans (World.drewN_drewN _ _ _) (congrArg (World.drewN _) (Nat.add_assoc _ _ _))⟩))))
                      go_meet
                      case rel => exact ⟨_, (true), (by first | rfl | (simp; done) | (simp [*]; done)), H', ⟨by have := HK1.out; first | omega | exact Nat.le_refl _⟩, ⟨by (with_reducible repeat (first | refine blk_drewN ?_ _ | refine blk_drew ?_ | refine blk_alloc ?_ _)); refine blk_put (cs := #[.string ((rd_T36 l0 x7_1).f0), .int .i64 ((rd_T36 l0 x7_1).f1), .int .i64 0]) ?_ 2 _ rfl; (with_reducible repeat (first | refine blk_drewN ?_ _ | refine blk_drew ?_ | refine blk_alloc ?_ _)); refine blk_put (cs := #[.string ((rd_T36 l0 x7_1).f0), .int .i64 0, .int .i64 0]) ?_ 1 _ rfl; (with_reducible repeat (first | refine blk_drewN ?_ _ | refine blk_drew ?_ | refine blk_alloc ?_ _)); refine blk_put (cs := #[.string (⟨#[]⟩ : ByteArray), .int .i64 0, .int .i64 0]) ?_ 0 _ rfl; (with_reducible repeat (first | refine blk_drewN ?_ _ | refine blk_drew ?_ | refine blk_alloc ?_ _)); exact BK108.out⟩, ⟨by repeat (first | (with_reducible first | exact HB.out | apply below_alloc | apply pw_below_drewN | apply below_drew1 | refine below_set ?_ GE108.out) | exact HB.out)⟩⟩
                    · rw [if_neg c16] at H
                      have c16b0 : decide (((rd_T36 l0 x7_1).f2) < 0) = false := decide_eq_false c16
                      clear c16
                      by_cases c18 : ((rd_T36 l0 x7_1).f1) = 2
                      · rw [if_pos c18] at H
                        have c18b0 : (((rd_T36 l0 x7_1).f1) == 2) = true := beq_iff_eq.mpr c18
                        have c18b1 : (((rd_T36 l0 x7_1).f1) != 2) = false := bne_eq_false_iff_eq.mpr c18
                        clear c18
                        by_cases c19 : ((rd_T36 l0 x7_1).f2) ≥ a2
                        · rw [if_pos c19] at H
                          have c19b0 : decide (a2 ≤ ((rd_T36 l0 x7_1).f2)) = true := decide_eq_true c19
                          clear c19
                          have H' := Aside0.mk H
                          clear H
                          have hcz20_0 : w8.cell? ⟨gb108, 0, none⟩ = some (.string (⟨#[]⟩ : ByteArray)) := (blk_cell BK108.out 0).trans rfl
                          have hcz20_1 : w8.cell? ⟨gb108, 1, none⟩ = some (.int .i64 0) := (blk_cell BK108.out 1).trans rfl
                          have hcz20_2 : w8.cell? ⟨gb108, 2, none⟩ = some (.int .i64 0) := (blk_cell BK108.out 2).trans rfl
                          have hfz20_0 := blk_frozen BK108.out 0
                          have hfz20_1 := blk_frozen BK108.out 1
                          have hfz20_2 := blk_frozen BK108.out 2
                          go_wp2_with (first | (go_at_call 37; (with_reducible refine (cotterref06_named.calls ((rd_T36 l0 x7_1).f0) true _ A10.out).mono ?_); rintro e w' ⟨rfl, ⟨nd, rfl⟩⟩; (try first | exact ⟨rfl, _, World.drewN_drewN _ _ _⟩ | exact ⟨rfl, _, Eq.trans (World.drewN_drewN _ _ _) (congrArg (World.drewN _) (Nat.add_assoc _ _ _))⟩)))
                          repeat (go_quiet (first | (go_at_call 37; (with_reducible refine (cotterref06_named.calls ((rd_T36 l0 x7_1).f0) true _ A10.out).mono ?_); rintro e w' ⟨rfl, ⟨nd, rfl⟩⟩; (try first | exact ⟨rfl, _, World.drewN_drewN _ _ _⟩ | exact ⟨rfl, _, Eq.trans (World.drewN_drewN _ _ _) (congrArg (World.drewN _) (Nat.add_assoc _ _ _))⟩))); try go_wp2_with (first | (go_at_call 37; (with_reducible refine (cotterref06_named.calls ((rd_T36 l0 x7_1).f0) true _ A10.out).mono ?_); rintro e w' ⟨rfl, ⟨nd, rfl⟩⟩; (try first | exact ⟨rfl, _, World.drewN_drewN _ _ _⟩ | exact ⟨rfl, _, Eq.trans (World.drewN_drewN _ _ _) (congrArg (World.drewN _) (Nat.add_assoc _ _ _))⟩))))
                          go_meet
                          case rel => exact ⟨_, (true), (by first | rfl | (simp; done) | (simp [*]; done)), H', ⟨by have := HK1.out; first | omega | exact Nat.le_refl _⟩, ⟨by (with_reducible repeat (first | refine blk_drewN ?_ _ | refine blk_drew ?_ | refine blk_alloc ?_ _)); refine blk_put (cs := #[.string ((rd_T36 l0 x7_1).f0), .int .i64 ((rd_T36 l0 x7_1).f1), .int .i64 0]) ?_ 2 _ rfl; (with_reducible repeat (first | refine blk_drewN ?_ _ | refine blk_drew ?_ | refine blk_alloc ?_ _)); refine blk_put (cs := #[.string ((rd_T36 l0 x7_1).f0), .int .i64 0, .int .i64 0]) ?_ 1 _ rfl; (with_reducible repeat (first | refine blk_drewN ?_ _ | refine blk_drew ?_ | refine blk_alloc ?_ _)); refine blk_put (cs := #[.string (⟨#[]⟩ : ByteArray), .int .i64 0, .int .i64 0]) ?_ 0 _ rfl; (with_reducible repeat (first | refine blk_drewN ?_ _ | refine blk_drew ?_ | refine blk_alloc ?_ _)); exact BK108.out⟩, ⟨by repeat (first | (with_reducible first | exact HB.out | apply below_alloc | apply pw_below_drewN | apply below_drew1 | refine below_set ?_ GE108.out) | exact HB.out)⟩⟩
                        · rw [if_neg c19] at H
                          have c19b0 : decide (a2 ≤ ((rd_T36 l0 x7_1).f2)) = false := decide_eq_false c19
                          clear c19
                          have H' := Aside0.mk H
                          clear H
                          have hcz21_0 : w8.cell? ⟨gb108, 0, none⟩ = some (.string (⟨#[]⟩ : ByteArray)) := (blk_cell BK108.out 0).trans rfl
                          have hcz21_1 : w8.cell? ⟨gb108, 1, none⟩ = some (.int .i64 0) := (blk_cell BK108.out 1).trans rfl
                          have hcz21_2 : w8.cell? ⟨gb108, 2, none⟩ = some (.int .i64 0) := (blk_cell BK108.out 2).trans rfl
                          have hfz21_0 := blk_frozen BK108.out 0
                          have hfz21_1 := blk_frozen BK108.out 1
                          have hfz21_2 := blk_frozen BK108.out 2
                          go_wp2_with (first | (go_at_call 37; (with_reducible refine (cotterref06_named.calls ((rd_T36 l0 x7_1).f0) true _ A10.out).mono ?_); rintro e w' ⟨rfl, ⟨nd, rfl⟩⟩; (try first | exact ⟨rfl, _, World.drewN_drewN _ _ _⟩ | exact ⟨rfl, _, Eq.trans (World.drewN_drewN _ _ _) (congrArg (World.drewN _) (Nat.add_assoc _ _ _))⟩)))
                          repeat (go_quiet (first | (go_at_call 37; (with_reducible refine (cotterref06_named.calls ((rd_T36 l0 x7_1).f0) true _ A10.out).mono ?_); rintro e w' ⟨rfl, ⟨nd, rfl⟩⟩; (try first | exact ⟨rfl, _, World.drewN_drewN _ _ _⟩ | exact ⟨rfl, _, Eq.trans (World.drewN_drewN _ _ _) (congrArg (World.drewN _) (Nat.add_assoc _ _ _))⟩))); try go_wp2_with (first | (go_at_call 37; (with_reducible refine (cotterref06_named.calls ((rd_T36 l0 x7_1).f0) true _ A10.out).mono ?_); rintro e w' ⟨rfl, ⟨nd, rfl⟩⟩; (try first | exact ⟨rfl, _, World.drewN_drewN _ _ _⟩ | exact ⟨rfl, _, Eq.trans (World.drewN_drewN _ _ _) (congrArg (World.drewN _) (Nat.add_assoc _ _ _))⟩))))
                          go_meet
                          case rel => exact ⟨_, (false), (by first | rfl | (simp; done) | (simp [*]; done)), H', ⟨by have := HK1.out; first | omega | exact Nat.le_refl _⟩, ⟨by (with_reducible repeat (first | refine blk_drewN ?_ _ | refine blk_drew ?_ | refine blk_alloc ?_ _)); refine blk_put (cs := #[.string ((rd_T36 l0 x7_1).f0), .int .i64 ((rd_T36 l0 x7_1).f1), .int .i64 0]) ?_ 2 _ rfl; (with_reducible repeat (first | refine blk_drewN ?_ _ | refine blk_drew ?_ | refine blk_alloc ?_ _)); refine blk_put (cs := #[.string ((rd_T36 l0 x7_1).f0), .int .i64 0, .int .i64 0]) ?_ 1 _ rfl; (with_reducible repeat (first | refine blk_drewN ?_ _ | refine blk_drew ?_ | refine blk_alloc ?_ _)); refine blk_put (cs := #[.string (⟨#[]⟩ : ByteArray), .int .i64 0, .int .i64 0]) ?_ 0 _ rfl; (with_reducible repeat (first | refine blk_drewN ?_ _ | refine blk_drew ?_ | refine blk_alloc ?_ _)); exact BK108.out⟩, ⟨by repeat (first | (with_reducible first | exact HB.out | apply below_alloc | apply pw_below_drewN | apply below_drew1 | refine below_set ?_ GE108.out) | exact HB.out)⟩⟩
                      · rw [if_neg c18] at H
                        have c18b0 : (((rd_T36 l0 x7_1).f1) == 2) = false := beq_eq_false_iff_ne.mpr c18
                        have c18b1 : (((rd_T36 l0 x7_1).f1) != 2) = true := bne_iff_ne.mpr c18
                        have H' := Aside0.mk H
                        clear H
                        have hcz22_0 : w8.cell? ⟨gb108, 0, none⟩ = some (.string (⟨#[]⟩ : ByteArray)) := (blk_cell BK108.out 0).trans rfl
                        have hcz22_1 : w8.cell? ⟨gb108, 1, none⟩ = some (.int .i64 0) := (blk_cell BK108.out 1).trans rfl
                        have hcz22_2 : w8.cell? ⟨gb108, 2, none⟩ = some (.int .i64 0) := (blk_cell BK108.out 2).trans rfl
                        have hfz22_0 := blk_frozen BK108.out 0
                        have hfz22_1 := blk_frozen BK108.out 1
                        have hfz22_2 := blk_frozen BK108.out 2
                        go_wp2_with (first | (go_at_call 37; (with_reducible refine (cotterref06_named.calls ((rd_T36 l0 x7_1).f0) true _ A10.out).mono ?_); rintro e w' ⟨rfl, ⟨nd, rfl⟩⟩; (try first | exact ⟨rfl, _, World.drewN_drewN _ _ _⟩ | exact ⟨rfl, _, Eq.trans (World.drewN_drewN _ _ _) (congrArg (World.drewN _) (Nat.add_assoc _ _ _))⟩)))
                        repeat (go_quiet (first | (go_at_call 37; (with_reducible refine (cotterref06_named.calls ((rd_T36 l0 x7_1).f0) true _ A10.out).mono ?_); rintro e w' ⟨rfl, ⟨nd, rfl⟩⟩; (try first | exact ⟨rfl, _, World.drewN_drewN _ _ _⟩ | exact ⟨rfl, _, Eq.trans (World.drewN_drewN _ _ _) (congrArg (World.drewN _) (Nat.add_assoc _ _ _))⟩))); try go_wp2_with (first | (go_at_call 37; (with_reducible refine (cotterref06_named.calls ((rd_T36 l0 x7_1).f0) true _ A10.out).mono ?_); rintro e w' ⟨rfl, ⟨nd, rfl⟩⟩; (try first | exact ⟨rfl, _, World.drewN_drewN _ _ _⟩ | exact ⟨rfl, _, Eq.trans (World.drewN_drewN _ _ _) (congrArg (World.drewN _) (Nat.add_assoc _ _ _))⟩))))
                        go_meet
                        case rel => exact ⟨_, (decide (((rd_T36 l0 x7_1).f2) ≥ a1)), (by first | rfl | (simp; done) | (simp [*]; done)), H', ⟨by have := HK1.out; first | omega | exact Nat.le_refl _⟩, ⟨by (with_reducible repeat (first | refine blk_drewN ?_ _ | refine blk_drew ?_ | refine blk_alloc ?_ _)); refine blk_put (cs := #[.string ((rd_T36 l0 x7_1).f0), .int .i64 ((rd_T36 l0 x7_1).f1), .int .i64 0]) ?_ 2 _ rfl; (with_reducible repeat (first | refine blk_drewN ?_ _ | refine blk_drew ?_ | refine blk_alloc ?_ _)); refine blk_put (cs := #[.string ((rd_T36 l0 x7_1).f0), .int .i64 0, .int .i64 0]) ?_ 1 _ rfl; (with_reducible repeat (first | refine blk_drewN ?_ _ | refine blk_drew ?_ | refine blk_alloc ?_ _)); refine blk_put (cs := #[.string (⟨#[]⟩ : ByteArray), .int .i64 0, .int .i64 0]) ?_ 0 _ rfl; (with_reducible repeat (first | refine blk_drewN ?_ _ | refine blk_drew ?_ | refine blk_alloc ?_ _)); exact BK108.out⟩, ⟨by repeat (first | (with_reducible first | exact HB.out | apply below_alloc | apply pw_below_drewN | apply below_drew1 | refine below_set ?_ GE108.out) | exact HB.out)⟩⟩
              · replace c11 := Bool.eq_false_iff.mpr c11
                subst c11
                have H1 : (cotterref06_Syms.j1 k1 l0 a1 a2 x7_1 true ((rd_T36 l0 x7_1).f0) ((rd_T36 l0 x7_1).f1) ((rd_T36 l0 x7_1).f2)) = some r := by rw [if_neg (show ¬ (false = true) by decide)] at H; exact H
                clear H
                have H := H1
                clear H1
                have H' := Aside0.mk H
                clear H
                have hcz23_0 : w8.cell? ⟨gb108, 0, none⟩ = some (.string (⟨#[]⟩ : ByteArray)) := (blk_cell BK108.out 0).trans rfl
                have hcz23_1 : w8.cell? ⟨gb108, 1, none⟩ = some (.int .i64 0) := (blk_cell BK108.out 1).trans rfl
                have hcz23_2 : w8.cell? ⟨gb108, 2, none⟩ = some (.int .i64 0) := (blk_cell BK108.out 2).trans rfl
                have hfz23_0 := blk_frozen BK108.out 0
                have hfz23_1 := blk_frozen BK108.out 1
                have hfz23_2 := blk_frozen BK108.out 2
                go_wp2_with (first | (go_at_call 37; (with_reducible refine (cotterref06_named.calls ((rd_T36 l0 x7_1).f0) false _ A10.out).mono ?_); rintro e w' ⟨rfl, ⟨nd, rfl⟩⟩; (try first | exact ⟨rfl, _, World.drewN_drewN _ _ _⟩ | exact ⟨rfl, _, Eq.trans (World.drewN_drewN _ _ _) (congrArg (World.drewN _) (Nat.add_assoc _ _ _))⟩)))
                repeat (go_quiet (first | (go_at_call 37; (with_reducible refine (cotterref06_named.calls ((rd_T36 l0 x7_1).f0) false _ A10.out).mono ?_); rintro e w' ⟨rfl, ⟨nd, rfl⟩⟩; (try first | exact ⟨rfl, _, World.drewN_drewN _ _ _⟩ | exact ⟨rfl, _, Eq.trans (World.drewN_drewN _ _ _) (congrArg (World.drewN _) (Nat.add_assoc _ _ _))⟩))); try go_wp2_with (first | (go_at_call 37; (with_reducible refine (cotterref06_named.calls ((rd_T36 l0 x7_1).f0) false _ A10.out).mono ?_); rintro e w' ⟨rfl, ⟨nd, rfl⟩⟩; (try first | exact ⟨rfl, _, World.drewN_drewN _ _ _⟩ | exact ⟨rfl, _, Eq.trans (World.drewN_drewN _ _ _) (congrArg (World.drewN _) (Nat.add_assoc _ _ _))⟩))))
                go_meet
                case rel => exact ⟨_, (true), (by first | rfl | (simp; done) | (simp [*]; done)), H', ⟨by have := HK1.out; first | omega | exact Nat.le_refl _⟩, ⟨by (with_reducible repeat (first | refine blk_drewN ?_ _ | refine blk_drew ?_ | refine blk_alloc ?_ _)); refine blk_put (cs := #[.string ((rd_T36 l0 x7_1).f0), .int .i64 ((rd_T36 l0 x7_1).f1), .int .i64 0]) ?_ 2 _ rfl; (with_reducible repeat (first | refine blk_drewN ?_ _ | refine blk_drew ?_ | refine blk_alloc ?_ _)); refine blk_put (cs := #[.string ((rd_T36 l0 x7_1).f0), .int .i64 0, .int .i64 0]) ?_ 1 _ rfl; (with_reducible repeat (first | refine blk_drewN ?_ _ | refine blk_drew ?_ | refine blk_alloc ?_ _)); refine blk_put (cs := #[.string (⟨#[]⟩ : ByteArray), .int .i64 0, .int .i64 0]) ?_ 0 _ rfl; (with_reducible repeat (first | refine blk_drewN ?_ _ | refine blk_drew ?_ | refine blk_alloc ?_ _)); exact BK108.out⟩, ⟨by repeat (first | (with_reducible first | exact HB.out | apply below_alloc | apply pw_below_drewN | apply below_drew1 | refine below_set ?_ GE108.out) | exact HB.out)⟩⟩
            case rest =>
              clear HC7
              try clear c1
              try clear p1
              try clear q1
              try clear hx1
              try clear p2
              try clear c3
              try clear c4
              try clear c4b0
              try clear c4b1
              try clear c5
              try clear c5b0
              try clear c6
              try clear c6b0
              try clear p10
              try clear q10
              try clear hx10
              try clear c11
              try clear c12
              try clear c12b0
              try clear c14
              try clear c14b0
              try clear c16
              try clear c16b0
              try clear c18
              try clear c18b0
              try clear c18b1
              try clear c19
              try clear c19b0
              try clear hcz13_0
              try clear hcz13_1
              try clear hcz13_2
              try clear hcz15_0
              try clear hcz15_1
              try clear hcz15_2
              try clear hcz17_0
              try clear hcz17_1
              try clear hcz17_2
              try clear hcz20_0
              try clear hcz20_1
              try clear hcz20_2
              try clear hcz21_0
              try clear hcz21_1
              try clear hcz21_2
              try clear hcz22_0
              try clear hcz22_1
              try clear hcz22_2
              try clear hcz23_0
              try clear hcz23_1
              try clear hcz23_2
              try clear hcz9_0
              try clear hcz9_1
              try clear hcz9_2
              try clear hfz13_0
              try clear hfz13_1
              try clear hfz13_2
              try clear hfz15_0
              try clear hfz15_1
              try clear hfz15_2
              try clear hfz17_0
              try clear hfz17_1
              try clear hfz17_2
              try clear hfz20_0
              try clear hfz20_1
              try clear hfz20_2
              try clear hfz21_0
              try clear hfz21_1
              try clear hfz21_2
              try clear hfz22_0
              try clear hfz22_1
              try clear hfz22_2
              try clear hfz23_0
              try clear hfz23_1
              try clear hfz23_2
              try clear hfz9_0
              try clear hfz9_1
              try clear hfz9_2
              try clear hx107_0
              try clear hx107_1
              try clear hx107_2
              try clear p107
              try clear p2
              try clear q107
              obtain ⟨kq, x63_6, rfl, HA, HJ6, BK108, HB⟩ := hcut
              cases kq with
              | zero => exact absurd HA.out (by simp [cotterref06_Syms.j1])
              | succ kj6 =>
                have H := HA.out
                clear HA
                simp only [cotterref06_Syms.j1] at H
                by_cases c24 : x63_6 = true
                · subst c24
                  have H1 : (some false) = some r := by rw [if_pos rfl] at H; exact H
                  clear H
                  have H := H1
                  clear H1
                  obtain rfl := Option.some.inj H
                  go_wp2
                  repeat (go_quiet (fail); try go_wp2)
                  go_ret
                  exact ⟨by first | rfl | (simp [errW_none, errW_some] <;> rfl) | (simp [*, errW_none, errW_some] <;> rfl), by repeat (first | (with_reducible first | exact HB.out | apply below_alloc | apply pw_below_drewN | apply below_drew1 | refine below_set ?_ GE108.out) | exact HB.out)⟩
                · replace c24 := Bool.eq_false_iff.mpr c24
                  subst c24
                  have H1 : (cotterref06_Syms.l1 kj6 l0 a1 a2 x7_1 0 ((rd_T36 l0 x7_1).f0) ((rd_T36 l0 x7_1).f1) ((rd_T36 l0 x7_1).f2)) = some r := by rw [if_neg (show ¬ (false = true) by decide)] at H; exact H
                  clear H
                  have H := H1
                  clear H1
                  have H' := Aside0.mk H
                  clear H
                  go_wp2
                  repeat (go_quiet (fail); try go_wp2)
                  go_loopg [9] kj6 (fun kq v9 w' => ∃ (x9_3 : Int), v9 = .int .i64 x9_3 ∧ Aside0 (cotterref06_Syms.l1 kq l0 a1 a2 x7_1 x9_3 ((rd_T36 l0 x7_1).f0) ((rd_T36 l0 x7_1).f1) ((rd_T36 l0 x7_1).f2) = some r) ∧ Aside0 (kq ≤ kj6) ∧ Aside0 (w'.heap[gb108]? = some (.cells #[.string ((rd_T36 l0 x7_1).f0), .int .i64 ((rd_T36 l0 x7_1).f1), .int .i64 ((rd_T36 l0 x7_1).f2)] 36 (0, 0))) ∧ Aside0 (Below w.heap.size w w'))
                  case atStart => exact ⟨(0), (by first | rfl | (simp; done) | (simp [*]; done)), H', ⟨Nat.le_refl _⟩, ⟨by (with_reducible repeat (first | refine blk_drewN ?_ _ | refine blk_drew ?_ | refine blk_alloc ?_ _)); exact BK108.out⟩, ⟨by repeat (first | (with_reducible first | exact HB.out | apply below_alloc | apply pw_below_drewN | apply below_drew1 | refine below_set ?_ GE108.out) | exact HB.out)⟩⟩
                  case round =>
                    clear H'
                    try clear c1
                    try clear p1
                    try clear q1
                    try clear hx1
                    try clear c2
                    try clear p2
                    try clear c3
                    try clear c4
                    try clear c4b0
                    try clear c4b1
                    try clear c5
                    try clear c5b0
                    try clear c6
                    try clear c6b0
                    try clear p10
                    try clear q10
                    try clear hx10
                    try clear c11
                    try clear c12
                    try clear c12b0
                    try clear c14
                    try clear c14b0
                    try clear c16
                    try clear c16b0
                    try clear c18
                    try clear c18b0
                    try clear c18b1
                    try clear c19
                    try clear c19b0
                    try clear c24
                    try clear hcz13_0
                    try clear hcz13_1
                    try clear hcz13_2
                    try clear hcz15_0
                    try clear hcz15_1
                    try clear hcz15_2
                    try clear hcz17_0
                    try clear hcz17_1
                    try clear hcz17_2
                    try clear hcz20_0
                    try clear hcz20_1
                    try clear hcz20_2
                    try clear hcz21_0
                    try clear hcz21_1
                    try clear hcz21_2
                    try clear hcz22_0
                    try clear hcz22_1
                    try clear hcz22_2
                    try clear hcz23_0
                    try clear hcz23_1
                    try clear hcz23_2
                    try clear hcz9_0
                    try clear hcz9_1
                    try clear hcz9_2
                    try clear hfz13_0
                    try clear hfz13_1
                    try clear hfz13_2
                    try clear hfz15_0
                    try clear hfz15_1
                    try clear hfz15_2
                    try clear hfz17_0
                    try clear hfz17_1
                    try clear hfz17_2
                    try clear hfz20_0
                    try clear hfz20_1
                    try clear hfz20_2
                    try clear hfz21_0
                    try clear hfz21_1
                    try clear hfz21_2
                    try clear hfz22_0
                    try clear hfz22_1
                    try clear hfz22_2
                    try clear hfz23_0
                    try clear hfz23_1
                    try clear hfz23_2
                    try clear hfz9_0
                    try clear hfz9_1
                    try clear hfz9_2
                    try clear hx107_0
                    try clear hx107_1
                    try clear hx107_2
                    try clear p1
                    try clear p10
                    try clear p107
                    try clear p2
                    try clear q1
                    try clear q10
                    try clear q107
                    obtain ⟨x9_3, rfl, HA, HK3, BK108, HB⟩ := hrel
                    cases gk with
                    | zero => exact absurd HA.out (by simp [cotterref06_Syms.l1])
                    | succ k3 =>
                      have H := HA.out
                      clear HA
                      simp only [cotterref06_Syms.l1] at H
                      by_cases c25 : x9_3 < x7_1
                      · rw [if_pos c25] at H
                        have c25b0 : decide (x9_3 < x7_1) = true := decide_eq_true c25
                        clear c25
                        by_cases c26 : 0 ≤ x9_3
                        · rw [if_pos c26] at H
                          have c26b0 : decide (0 ≤ x9_3) = true := decide_eq_true c26
                          clear c26
                          by_cases c27 : x9_3 < (l0.length : Int)
                          · rw [if_pos c27] at H
                            have c27b0 : decide (x9_3 < (l0.length : Int)) = true := decide_eq_true c27
                            clear c27
                            by_cases c28 : ((rd_T36 l0 x9_3).f0).toList = ((rd_T36 l0 x7_1).f0).toList
                            · rw [if_pos c28] at H
                              have c28b0 : (((rd_T36 l0 x9_3).f0).toList == ((rd_T36 l0 x7_1).f0).toList) = true := beq_iff_eq.mpr c28
                              have c28b1 : (((rd_T36 l0 x9_3).f0).toList != ((rd_T36 l0 x7_1).f0).toList) = false := bne_eq_false_iff_eq.mpr c28
                              clear c28
                              obtain rfl := Option.some.inj H
                              have p110 : 0 ≤ (x9_3 : Int) := of_decide_eq_true (by first | (with_reducible assumption) | assumption)
                              have q110 : x9_3 < (l0.length : Int) := of_decide_eq_true (by first | (with_reducible assumption) | assumption)
                              obtain ⟨ad110, e110, hx110_0, hx110_1, hx110_2⟩ := at_T36 HR0.out x9_3 p110 q110
                              obtain rfl : ad107 = ad110 := (by injection e110)
                              replace hx110_0 := (HB.out.cell (World.block_lt_of_cell? w _ hx110_0)).trans hx110_0
                              replace hx110_1 := (HB.out.cell (World.block_lt_of_cell? w _ hx110_1)).trans hx110_1
                              replace hx110_2 := (HB.out.cell (World.block_lt_of_cell? w _ hx110_2)).trans hx110_2
                              replace p110 := eq_true p110
                              replace q110 := eq_true q110
                              have hcz29_0 : wr.cell? ⟨gb108, 0, none⟩ = some (.string ((rd_T36 l0 x7_1).f0)) := (blk_cell BK108.out 0).trans rfl
                              have hcz29_1 : wr.cell? ⟨gb108, 1, none⟩ = some (.int .i64 ((rd_T36 l0 x7_1).f1)) := (blk_cell BK108.out 1).trans rfl
                              have hcz29_2 : wr.cell? ⟨gb108, 2, none⟩ = some (.int .i64 ((rd_T36 l0 x7_1).f2)) := (blk_cell BK108.out 2).trans rfl
                              have hfz29_0 := blk_frozen BK108.out 0
                              have hfz29_1 := blk_frozen BK108.out 1
                              have hfz29_2 := blk_frozen BK108.out 2
                              go_wp2
                              repeat (go_quiet (fail); try go_wp2)
                              go_ret
                              exact ⟨by first | rfl | (simp [errW_none, errW_some] <;> rfl) | (simp [*, errW_none, errW_some] <;> rfl), by repeat (first | (with_reducible first | exact HB.out | apply below_alloc | apply pw_below_drewN | apply below_drew1 | refine below_set ?_ GE108.out) | exact HB.out)⟩
                            · rw [if_neg c28] at H
                              have c28b0 : (((rd_T36 l0 x9_3).f0).toList == ((rd_T36 l0 x7_1).f0).toList) = false := beq_eq_false_iff_ne.mpr c28
                              have c28b1 : (((rd_T36 l0 x9_3).f0).toList != ((rd_T36 l0 x7_1).f0).toList) = true := bne_iff_ne.mpr c28
                              have H' := Aside0.mk H
                              clear H
                              have p110 : 0 ≤ (x9_3 : Int) := of_decide_eq_true (by first | (with_reducible assumption) | assumption)
                              have q110 : x9_3 < (l0.length : Int) := of_decide_eq_true (by first | (with_reducible assumption) | assumption)
                              obtain ⟨ad110, e110, hx110_0, hx110_1, hx110_2⟩ := at_T36 HR0.out x9_3 p110 q110
                              obtain rfl : ad107 = ad110 := (by injection e110)
                              replace hx110_0 := (HB.out.cell (World.block_lt_of_cell? w _ hx110_0)).trans hx110_0
                              replace hx110_1 := (HB.out.cell (World.block_lt_of_cell? w _ hx110_1)).trans hx110_1
                              replace hx110_2 := (HB.out.cell (World.block_lt_of_cell? w _ hx110_2)).trans hx110_2
                              replace p110 := eq_true p110
                              replace q110 := eq_true q110
                              have hcz30_0 : wr.cell? ⟨gb108, 0, none⟩ = some (.string ((rd_T36 l0 x7_1).f0)) := (blk_cell BK108.out 0).trans rfl
                              have hcz30_1 : wr.cell? ⟨gb108, 1, none⟩ = some (.int .i64 ((rd_T36 l0 x7_1).f1)) := (blk_cell BK108.out 1).trans rfl
                              have hcz30_2 : wr.cell? ⟨gb108, 2, none⟩ = some (.int .i64 ((rd_T36 l0 x7_1).f2)) := (blk_cell BK108.out 2).trans rfl
                              have hfz30_0 := blk_frozen BK108.out 0
                              have hfz30_1 := blk_frozen BK108.out 1
                              have hfz30_2 := blk_frozen BK108.out 2
                              go_wp2
                              repeat (go_quiet (fail); try go_wp2)
                              go_roundg k3
                              case measure => have := HK1.out; have := HJ6.out; have := HK3.out; omega
                              case rel => exact ⟨(wrap64 (x9_3 + 1)), (by first | rfl | (simp; done) | (simp [*]; done)), H', ⟨by have := HK1.out; have := HJ6.out; have := HK3.out; omega⟩, ⟨by (with_reducible repeat (first | refine blk_drewN ?_ _ | refine blk_drew ?_ | refine blk_alloc ?_ _)); exact BK108.out⟩, ⟨by repeat (first | (with_reducible first | exact HB.out | apply below_alloc | apply pw_below_drewN | apply below_drew1 | refine below_set ?_ GE108.out) | exact HB.out)⟩⟩
                          · rw [if_neg c27] at H
                            exact absurd H (by simp)
                        · rw [if_neg c26] at H
                          exact absurd H (by simp)
                      · rw [if_neg c25] at H
                        have c25b0 : decide (x9_3 < x7_1) = false := decide_eq_false c25
                        clear c25
                        have H' := Aside0.mk H
                        clear H
                        go_wp2
                        repeat (go_quiet (fail); try go_wp2)
                        go_roundg k3
                        case measure => have := HK1.out; have := HJ6.out; have := HK3.out; omega
                        case rel => exact ⟨(wrap64 (x7_1 + 1)), (by first | rfl | (simp; done) | (simp [*]; done)), H', ⟨by have := HK1.out; have := HJ6.out; have := HK3.out; omega⟩, ⟨by repeat (first | (with_reducible first | exact HB.out | apply below_alloc | apply pw_below_drewN | apply below_drew1 | refine below_set ?_ GE108.out) | exact HB.out)⟩⟩
          · rw [if_neg c6] at H
            exact absurd H (by simp)
        · rw [if_neg c5] at H
          have c5b0 : decide (x7_1 < (l0.length : Int)) = false := decide_eq_false c5
          clear c5
          obtain rfl := Option.some.inj H
          go_wp2
          repeat (go_quiet (fail); try go_wp2)
          go_ret
          exact ⟨by first | rfl | (simp [errW_none, errW_some] <;> rfl) | (simp [*, errW_none, errW_some] <;> rfl), by repeat (first | (with_reducible first | exact HB.out | apply below_alloc | apply pw_below_drewN | apply below_drew1) | exact HB.out)⟩

end Go.Proofs.Yteaealmnmmcbpaa.M

