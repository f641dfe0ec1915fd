-- Written by a program of this session (wip/ownprint.py) over the translation. Lean checks it.
import Derived.Test.YtpahpebchjajfaaM0
import Derived.Test.YtpahpebchjajfaaM2
import Derived.Test.YtpahpebchjajfaaM5
namespace Go.Proofs.Ytpahpebchjajfaa.M
open Go.RowKit Go.Proofs.YtpahpebchjajfaaW.PrintWords Go.Proofs.YtpahpebchjajfaaW.PrintLast Go.Proofs.YtpahpebchjajfaaW.PrintMore
attribute [local go_sem] max2_int min2_int max_two min_two max_three min_three max_four min_four   -- for this text's walks alone
set_option linter.unusedVariables false
set_option linter.unusedSimpArgs false

/-! ### cotterlaw01_WordShifts: function 8 -/
def cotterlaw01_WordShifts.f (k : Nat) (a0 : Int) (a1 : Int) : Option (Bool) := (word_Bin.f k 11 (wrap64 (a0)) (wrap64 (Int.tmod a1 32))).bind fun bt213 => ((word_Bin.f k 12 bt213.1 (wrap64 (Int.tmod a1 32))).bind fun bt215 => ((word_Bin.f k 11 (wrap64 (a0)) (wrap64 ((wrap64 (Int.tmod a1 32)) + 64))).bind fun bt217 => (if bt213.2 = 0 then (if bt215.2 = 0 then (if bt217.2 = 0 then (if bt215.1 = (wrap64 (a0)) then (if bt217.1 = bt213.1 then ((cotterlaw01_live.f k).bind fun t219 => (some t219)) else (some false)) else (some false)) else (some false)) else (some false)) else (some false))))
theorem cotterlaw01_WordShifts.mono : ∀ a0 a1 k, LeO (cotterlaw01_WordShifts.f k a0 a1) (cotterlaw01_WordShifts.f (k + 1) a0 a1) := by
  intro a0 a1 k
  unfold cotterlaw01_WordShifts.f
  repeat' first
      | (with_reducible exact cotterlaw01_live.mono _)
      | (with_reducible exact word_Bin.mono _ _ _ _)
      | (with_reducible exact LeO.refl _)
      | (with_reducible exact LeO.none _)
      | (with_reducible refine LeO.ite ?_ ?_)
      | (with_reducible refine LeO.bind ?_ (fun _ => ?_))
      | exact cotterlaw01_live.mono _
      | exact word_Bin.mono _ _ _ _
      | exact LeO.none _
      | refine LeO.ite ?_ ?_
      | refine LeO.bind ?_ (fun _ => ?_)
set_option maxHeartbeats 8000000 in
set_option maxRecDepth 100000 in
theorem cotterlaw01_WordShifts.calls (k : Nat) (a0 : Int) (a1 : Int) (r : Bool) (w : World) (h : cotterlaw01_WordShifts.f k a0 a1 = some r) :
    Calls Try.prog 8 #[.int .i32 a0, .int .u8 a1] w fun e w' => e = .returned (.bool r) ∧ Below w.heap.size w w' := by
  have HB := Aside0.mk (Below.refl w.heap.size w)
  have H : ((word_Bin.f k 11 (wrap64 (a0)) (wrap64 (Int.tmod a1 32))).bind fun bt213 => ((word_Bin.f k 12 bt213.1 (wrap64 (Int.tmod a1 32))).bind fun bt215 => ((word_Bin.f k 11 (wrap64 (a0)) (wrap64 ((wrap64 (Int.tmod a1 32)) + 64))).bind fun bt217 => (if bt213.2 = 0 then (if bt215.2 = 0 then (if bt217.2 = 0 then (if bt215.1 = (wrap64 (a0)) then (if bt217.1 = bt213.1 then ((cotterlaw01_live.f k).bind fun t219 => (some t219)) else (some false)) else (some false)) else (some false)) else (some false)) else (some false))))) = some r := h
  clear h
  replace H := Option.bind_eq_some_iff.mp H
  obtain ⟨⟨t213, t214⟩, A30, H⟩ := H
  replace H : ((word_Bin.f k 12 t213 (wrap64 (Int.tmod a1 32))).bind fun bt215 => ((word_Bin.f k 11 (wrap64 (a0)) (wrap64 ((wrap64 (Int.tmod a1 32)) + 64))).bind fun bt217 => (if t214 = 0 then (if bt215.2 = 0 then (if bt217.2 = 0 then (if bt215.1 = (wrap64 (a0)) then (if bt217.1 = t213 then ((cotterlaw01_live.f k).bind fun t219 => (some t219)) else (some false)) else (some false)) else (some false)) else (some false)) else (some false)))) = some r := H
  have A3 := Aside0.mk A30
  clear A30
  replace H := Option.bind_eq_some_iff.mp H
  obtain ⟨⟨t215, t216⟩, A40, H⟩ := H
  replace H : ((word_Bin.f k 11 (wrap64 (a0)) (wrap64 ((wrap64 (Int.tmod a1 32)) + 64))).bind fun bt217 => (if t214 = 0 then (if t216 = 0 then (if bt217.2 = 0 then (if t215 = (wrap64 (a0)) then (if bt217.1 = t213 then ((cotterlaw01_live.f k).bind fun t219 => (some t219)) else (some false)) else (some false)) else (some false)) else (some false)) else (some false))) = some r := H
  have A4 := Aside0.mk A40
  clear A40
  replace H := Option.bind_eq_some_iff.mp H
  obtain ⟨⟨t217, t218⟩, A50, H⟩ := H
  replace H : (if t214 = 0 then (if t216 = 0 then (if t218 = 0 then (if t215 = (wrap64 (a0)) then (if t217 = t213 then ((cotterlaw01_live.f k).bind fun t219 => (some t219)) else (some false)) else (some false)) else (some false)) else (some false)) else (some false)) = some r := H
  have A5 := Aside0.mk A50
  clear A50
  by_cases c6 : t214 = 0
  · rw [if_pos c6] at H
    have c6b0 : (t214 == 0) = true := beq_iff_eq.mpr c6
    have c6b1 : (t214 != 0) = false := bne_eq_false_iff_eq.mpr c6
    clear c6
    by_cases c7 : t216 = 0
    · rw [if_pos c7] at H
      have c7b0 : (t216 == 0) = true := beq_iff_eq.mpr c7
      have c7b1 : (t216 != 0) = false := bne_eq_false_iff_eq.mpr c7
      clear c7
      by_cases c8 : t218 = 0
      · rw [if_pos c8] at H
        have c8b0 : (t218 == 0) = true := beq_iff_eq.mpr c8
        have c8b1 : (t218 != 0) = false := bne_eq_false_iff_eq.mpr c8
        clear c8
        by_cases c9 : t215 = (wrap64 (a0))
        · rw [if_pos c9] at H
          have c9b0 : (t215 == (wrap64 (a0))) = true := beq_iff_eq.mpr c9
          have c9b1 : (t215 != (wrap64 (a0))) = false := bne_eq_false_iff_eq.mpr c9
          clear c9
          by_cases c10 : t217 = t213
          · rw [if_pos c10] at H
            have c10b0 : (t217 == t213) = true := beq_iff_eq.mpr c10
            have c10b1 : (t217 != t213) = false := bne_eq_false_iff_eq.mpr c10
            clear c10
            replace H := Option.bind_eq_some_iff.mp H
            obtain ⟨t219, A110, H⟩ := H
            replace H : (some t219) = some r := H
            have A11 := Aside0.mk A110
            clear A110
            obtain rfl := Option.some.inj H
            go_enter Try.func8, Try.ntmps8
            go_wp2_with (first | ((with_reducible refine gate_callee (f := 12) rfl ?_); refine goesL_ (some 19) rfl rfl Try.func12 (by kernel_rfl) rfl #[.int .i64 11, .int .i64 (wrap64 (a0)), .int .i64 (wrap64 (Int.tmod a1 32))] rfl (by (try simp only [List.map_toArray, List.map_cons, List.map_nil]); first | done | rfl | (simp only [List.length_drop, List.length_take]; rfl)) ?_; (with_reducible refine (word_Bin.calls k 11 (wrap64 (a0)) (wrap64 (Int.tmod a1 32)) t213 t214 _ A3.out).mono ?_); rintro e w' ⟨rfl, ⟨nd, rfl⟩⟩; refine ⟨_, rfl, ?_⟩) | ((with_reducible refine gate_callee (f := 12) rfl ?_); refine goesL_ (some 25) rfl rfl Try.func12 (by kernel_rfl) rfl #[.int .i64 12, .int .i64 t213, .int .i64 (wrap64 (Int.tmod a1 32))] rfl (by (try simp only [List.map_toArray, List.map_cons, List.map_nil]); first | done | rfl | (simp only [List.length_drop, List.length_take]; rfl)) ?_; (with_reducible refine (word_Bin.calls k 12 t213 (wrap64 (Int.tmod a1 32)) t215 t216 _ A4.out).mono ?_); rintro e w' ⟨rfl, ⟨nd, rfl⟩⟩; refine ⟨_, rfl, ?_⟩) | ((with_reducible refine gate_callee (f := 12) rfl ?_); refine goesL_ (some 33) rfl rfl Try.func12 (by kernel_rfl) rfl #[.int .i64 11, .int .i64 (wrap64 (a0)), .int .i64 (wrap64 ((wrap64 (Int.tmod a1 32)) + 64))] rfl (by (try simp only [List.map_toArray, List.map_cons, List.map_nil]); first | done | rfl | (simp only [List.length_drop, List.length_take]; rfl)) ?_; (with_reducible refine (word_Bin.calls k 11 (wrap64 (a0)) (wrap64 ((wrap64 (Int.tmod a1 32)) + 64)) t217 t218 _ A5.out).mono ?_); rintro e w' ⟨rfl, ⟨nd, rfl⟩⟩; refine ⟨_, rfl, ?_⟩) | (go_at_call 14; (with_reducible refine (cotterlaw01_live.calls k  t219 _ A11.out).mono ?_); rintro e w12 ⟨rfl, hb⟩; have n0_ := Aside0.mk (below_step (by repeat (first | (with_reducible first | exact HB.out | apply below_alloc | apply pw_below_drewN | apply below_drew1) | exact HB.out)) hb); clear HB; have HB := n0_; clear n0_; (try clear hb); (try clear hb2); (try clear hk); (try clear hi)))
            go_ret
            exact ⟨by first | rfl | (simp [errW_none, errW_some] <;> rfl) | (simp [*, errW_none, errW_some] <;> rfl), by repeat (first | (with_reducible first | exact HB.out | apply below_alloc | apply pw_below_drewN | apply below_drew1) | exact HB.out)⟩
          · rw [if_neg c10] at H
            have c10b0 : (t217 == t213) = false := beq_eq_false_iff_ne.mpr c10
            have c10b1 : (t217 != t213) = true := bne_iff_ne.mpr c10
            obtain rfl := Option.some.inj H
            go_enter Try.func8, Try.ntmps8
            go_wp2_with (first | ((with_reducible refine gate_callee (f := 12) rfl ?_); refine goesL_ (some 19) rfl rfl Try.func12 (by kernel_rfl) rfl #[.int .i64 11, .int .i64 (wrap64 (a0)), .int .i64 (wrap64 (Int.tmod a1 32))] rfl (by (try simp only [List.map_toArray, List.map_cons, List.map_nil]); first | done | rfl | (simp only [List.length_drop, List.length_take]; rfl)) ?_; (with_reducible refine (word_Bin.calls k 11 (wrap64 (a0)) (wrap64 (Int.tmod a1 32)) t213 t214 _ A3.out).mono ?_); rintro e w' ⟨rfl, ⟨nd, rfl⟩⟩; refine ⟨_, rfl, ?_⟩) | ((with_reducible refine gate_callee (f := 12) rfl ?_); refine goesL_ (some 25) rfl rfl Try.func12 (by kernel_rfl) rfl #[.int .i64 12, .int .i64 t213, .int .i64 (wrap64 (Int.tmod a1 32))] rfl (by (try simp only [List.map_toArray, List.map_cons, List.map_nil]); first | done | rfl | (simp only [List.length_drop, List.length_take]; rfl)) ?_; (with_reducible refine (word_Bin.calls k 12 t213 (wrap64 (Int.tmod a1 32)) t215 t216 _ A4.out).mono ?_); rintro e w' ⟨rfl, ⟨nd, rfl⟩⟩; refine ⟨_, rfl, ?_⟩) | ((with_reducible refine gate_callee (f := 12) rfl ?_); refine goesL_ (some 33) rfl rfl Try.func12 (by kernel_rfl) rfl #[.int .i64 11, .int .i64 (wrap64 (a0)), .int .i64 (wrap64 ((wrap64 (Int.tmod a1 32)) + 64))] rfl (by (try simp only [List.map_toArray, List.map_cons, List.map_nil]); first | done | rfl | (simp only [List.length_drop, List.length_take]; rfl)) ?_; (with_reducible refine (word_Bin.calls k 11 (wrap64 (a0)) (wrap64 ((wrap64 (Int.tmod a1 32)) + 64)) t217 t218 _ A5.out).mono ?_); rintro e w' ⟨rfl, ⟨nd, rfl⟩⟩; refine ⟨_, rfl, ?_⟩))
            go_ret
            exact ⟨by first | rfl | (simp [errW_none, errW_some] <;> rfl) | (simp [*, errW_none, errW_some] <;> rfl), by repeat (first | (with_reducible first | exact HB.out | apply below_alloc | apply pw_below_drewN | apply below_drew1) | exact HB.out)⟩
        · rw [if_neg c9] at H
          have c9b0 : (t215 == (wrap64 (a0))) = false := beq_eq_false_iff_ne.mpr c9
          have c9b1 : (t215 != (wrap64 (a0))) = true := bne_iff_ne.mpr c9
          obtain rfl := Option.some.inj H
          go_enter Try.func8, Try.ntmps8
          go_wp2_with (first | ((with_reducible refine gate_callee (f := 12) rfl ?_); refine goesL_ (some 19) rfl rfl Try.func12 (by kernel_rfl) rfl #[.int .i64 11, .int .i64 (wrap64 (a0)), .int .i64 (wrap64 (Int.tmod a1 32))] rfl (by (try simp only [List.map_toArray, List.map_cons, List.map_nil]); first | done | rfl | (simp only [List.length_drop, List.length_take]; rfl)) ?_; (with_reducible refine (word_Bin.calls k 11 (wrap64 (a0)) (wrap64 (Int.tmod a1 32)) t213 t214 _ A3.out).mono ?_); rintro e w' ⟨rfl, ⟨nd, rfl⟩⟩; refine ⟨_, rfl, ?_⟩) | ((with_reducible refine gate_callee (f := 12) rfl ?_); refine goesL_ (some 25) rfl rfl Try.func12 (by kernel_rfl) rfl #[.int .i64 12, .int .i64 t213, .int .i64 (wrap64 (Int.tmod a1 32))] rfl (by (try simp only [List.map_toArray, List.map_cons, List.map_nil]); first | done | rfl | (simp only [List.length_drop, List.length_take]; rfl)) ?_; (with_reducible refine (word_Bin.calls k 12 t213 (wrap64 (Int.tmod a1 32)) t215 t216 _ A4.out).mono ?_); rintro e w' ⟨rfl, ⟨nd, rfl⟩⟩; refine ⟨_, rfl, ?_⟩) | ((with_reducible refine gate_callee (f := 12) rfl ?_); refine goesL_ (some 33) rfl rfl Try.func12 (by kernel_rfl) rfl #[.int .i64 11, .int .i64 (wrap64 (a0)), .int .i64 (wrap64 ((wrap64 (Int.tmod a1 32)) + 64))] rfl (by (try simp only [List.map_toArray, List.map_cons, List.map_nil]); first | done | rfl | (simp only [List.length_drop, List.length_take]; rfl)) ?_; (with_reducible refine (word_Bin.calls k 11 (wrap64 (a0)) (wrap64 ((wrap64 (Int.tmod a1 32)) + 64)) t217 t218 _ A5.out).mono ?_); rintro e w' ⟨rfl, ⟨nd, rfl⟩⟩; refine ⟨_, rfl, ?_⟩))
          go_ret
          exact ⟨by first | rfl | (simp [errW_none, errW_some] <;> rfl) | (simp [*, errW_none, errW_some] <;> rfl), by repeat (first | (with_reducible first | exact HB.out | apply below_alloc | apply pw_below_drewN | apply below_drew1) | exact HB.out)⟩
      · rw [if_neg c8] at H
        have c8b0 : (t218 == 0) = false := beq_eq_false_iff_ne.mpr c8
        have c8b1 : (t218 != 0) = true := bne_iff_ne.mpr c8
        obtain rfl := Option.some.inj H
        go_enter Try.func8, Try.ntmps8
        go_wp2_with (first | ((with_reducible refine gate_callee (f := 12) rfl ?_); refine goesL_ (some 19) rfl rfl Try.func12 (by kernel_rfl) rfl #[.int .i64 11, .int .i64 (wrap64 (a0)), .int .i64 (wrap64 (Int.tmod a1 32))] rfl (by (try simp only [List.map_toArray, List.map_cons, List.map_nil]); first | done | rfl | (simp only [List.length_drop, List.length_take]; rfl)) ?_; (with_reducible refine (word_Bin.calls k 11 (wrap64 (a0)) (wrap64 (Int.tmod a1 32)) t213 t214 _ A3.out).mono ?_); rintro e w' ⟨rfl, ⟨nd, rfl⟩⟩; refine ⟨_, rfl, ?_⟩) | ((with_reducible refine gate_callee (f := 12) rfl ?_); refine goesL_ (some 25) rfl rfl Try.func12 (by kernel_rfl) rfl #[.int .i64 12, .int .i64 t213, .int .i64 (wrap64 (Int.tmod a1 32))] rfl (by (try simp only [List.map_toArray, List.map_cons, List.map_nil]); first | done | rfl | (simp only [List.length_drop, List.length_take]; rfl)) ?_; (with_reducible refine (word_Bin.calls k 12 t213 (wrap64 (Int.tmod a1 32)) t215 t216 _ A4.out).mono ?_); rintro e w' ⟨rfl, ⟨nd, rfl⟩⟩; refine ⟨_, rfl, ?_⟩) | ((with_reducible refine gate_callee (f := 12) rfl ?_); refine goesL_ (some 33) rfl rfl Try.func12 (by kernel_rfl) rfl #[.int .i64 11, .int .i64 (wrap64 (a0)), .int .i64 (wrap64 ((wrap64 (Int.tmod a1 32)) + 64))] rfl (by (try simp only [List.map_toArray, List.map_cons, List.map_nil]); first | done | rfl | (simp only [List.length_drop, List.length_take]; rfl)) ?_; (with_reducible refine (word_Bin.calls k 11 (wrap64 (a0)) (wrap64 ((wrap64 (Int.tmod a1 32)) + 64)) t217 t218 _ A5.out).mono ?_); rintro e w' ⟨rfl, ⟨nd, rfl⟩⟩; refine ⟨_, rfl, ?_⟩))
        go_ret
        exact ⟨by first | rfl | (simp [errW_none, errW_some] <;> rfl) | (simp [*, errW_none, errW_some] <;> rfl), by repeat (first | (with_reducible first | exact HB.out | apply below_alloc | apply pw_below_drewN | apply below_drew1) | exact HB.out)⟩
    · rw [if_neg c7] at H
      have c7b0 : (t216 == 0) = false := beq_eq_false_iff_ne.mpr c7
      have c7b1 : (t216 != 0) = true := bne_iff_ne.mpr c7
      obtain rfl := Option.some.inj H
      go_enter Try.func8, Try.ntmps8
      go_wp2_with (first | ((with_reducible refine gate_callee (f := 12) rfl ?_); refine goesL_ (some 19) rfl rfl Try.func12 (by kernel_rfl) rfl #[.int .i64 11, .int .i64 (wrap64 (a0)), .int .i64 (wrap64 (Int.tmod a1 32))] rfl (by (try simp only [List.map_toArray, List.map_cons, List.map_nil]); first | done | rfl | (simp only [List.length_drop, List.length_take]; rfl)) ?_; (with_reducible refine (word_Bin.calls k 11 (wrap64 (a0)) (wrap64 (Int.tmod a1 32)) t213 t214 _ A3.out).mono ?_); rintro e w' ⟨rfl, ⟨nd, rfl⟩⟩; refine ⟨_, rfl, ?_⟩) | ((with_reducible refine gate_callee (f := 12) rfl ?_); refine goesL_ (some 25) rfl rfl Try.func12 (by kernel_rfl) rfl #[.int .i64 12, .int .i64 t213, .int .i64 (wrap64 (Int.tmod a1 32))] rfl (by (try simp only [List.map_toArray, List.map_cons, List.map_nil]); first | done | rfl | (simp only [List.length_drop, List.length_take]; rfl)) ?_; (with_reducible refine (word_Bin.calls k 12 t213 (wrap64 (Int.tmod a1 32)) t215 t216 _ A4.out).mono ?_); rintro e w' ⟨rfl, ⟨nd, rfl⟩⟩; refine ⟨_, rfl, ?_⟩) | ((with_reducible refine gate_callee (f := 12) rfl ?_); refine goesL_ (some 33) rfl rfl Try.func12 (by kernel_rfl) rfl #[.int .i64 11, .int .i64 (wrap64 (a0)), .int .i64 (wrap64 ((wrap64 (Int.tmod a1 32)) + 64))] rfl (by (try simp only [List.map_toArray, List.map_cons, List.map_nil]); first | done | rfl | (simp only [List.length_drop, List.length_take]; rfl)) ?_; (with_reducible refine (word_Bin.calls k 11 (wrap64 (a0)) (wrap64 ((wrap64 (Int.tmod a1 32)) + 64)) t217 t218 _ A5.out).mono ?_); rintro e w' ⟨rfl, ⟨nd, rfl⟩⟩; refine ⟨_, rfl, ?_⟩))
      go_ret
      exact ⟨by first | rfl | (simp [errW_none, errW_some] <;> rfl) | (simp [*, errW_none, errW_some] <;> rfl), by repeat (first | (with_reducible first | exact HB.out | apply below_alloc | apply pw_below_drewN | apply below_drew1) | exact HB.out)⟩
  · rw [if_neg c6] at H
    have c6b0 : (t214 == 0) = false := beq_eq_false_iff_ne.mpr c6
    have c6b1 : (t214 != 0) = true := bne_iff_ne.mpr c6
    obtain rfl := Option.some.inj H
    go_enter Try.func8, Try.ntmps8
    go_wp2_with (first | ((with_reducible refine gate_callee (f := 12) rfl ?_); refine goesL_ (some 19) rfl rfl Try.func12 (by kernel_rfl) rfl #[.int .i64 11, .int .i64 (wrap64 (a0)), .int .i64 (wrap64 (Int.tmod a1 32))] rfl (by (try simp only [List.map_toArray, List.map_cons, List.map_nil]); first | done | rfl | (simp only [List.length_drop, List.length_take]; rfl)) ?_; (with_reducible refine (word_Bin.calls k 11 (wrap64 (a0)) (wrap64 (Int.tmod a1 32)) t213 t214 _ A3.out).mono ?_); rintro e w' ⟨rfl, ⟨nd, rfl⟩⟩; refine ⟨_, rfl, ?_⟩) | ((with_reducible refine gate_callee (f := 12) rfl ?_); refine goesL_ (some 25) rfl rfl Try.func12 (by kernel_rfl) rfl #[.int .i64 12, .int .i64 t213, .int .i64 (wrap64 (Int.tmod a1 32))] rfl (by (try simp only [List.map_toArray, List.map_cons, List.map_nil]); first | done | rfl | (simp only [List.length_drop, List.length_take]; rfl)) ?_; (with_reducible refine (word_Bin.calls k 12 t213 (wrap64 (Int.tmod a1 32)) t215 t216 _ A4.out).mono ?_); rintro e w' ⟨rfl, ⟨nd, rfl⟩⟩; refine ⟨_, rfl, ?_⟩) | ((with_reducible refine gate_callee (f := 12) rfl ?_); refine goesL_ (some 33) rfl rfl Try.func12 (by kernel_rfl) rfl #[.int .i64 11, .int .i64 (wrap64 (a0)), .int .i64 (wrap64 ((wrap64 (Int.tmod a1 32)) + 64))] rfl (by (try simp only [List.map_toArray, List.map_cons, List.map_nil]); first | done | rfl | (simp only [List.length_drop, List.length_take]; rfl)) ?_; (with_reducible refine (word_Bin.calls k 11 (wrap64 (a0)) (wrap64 ((wrap64 (Int.tmod a1 32)) + 64)) t217 t218 _ A5.out).mono ?_); rintro e w' ⟨rfl, ⟨nd, rfl⟩⟩; refine ⟨_, rfl, ?_⟩))
    go_ret
    exact ⟨by first | rfl | (simp [errW_none, errW_some] <;> rfl) | (simp [*, errW_none, errW_some] <;> rfl), by repeat (first | (with_reducible first | exact HB.out | apply below_alloc | apply pw_below_drewN | apply below_drew1) | exact HB.out)⟩

/-- THE ONE PURE STATEMENT of cotterlaw01_WordShifts: yours. -/
def cotterlaw01_WordShifts.Pure : Prop := ∀ (a0 : Int) (a1 : Int), (Lit.int .i32 a0).wf = true → (Lit.int .u8 a1).wf = true → ∃ k, cotterlaw01_WordShifts.f k a0 a1 = some true
theorem cotterlaw01_WordShifts.walk (P : cotterlaw01_WordShifts.Pure) (a0 : Int) (a1 : Int) (w : World) (w0 : (Lit.int .i32 a0).wf = true) (w1 : (Lit.int .u8 a1).wf = true) :
    Calls Try.prog 8 #[.int .i32 a0, .int .u8 a1] w fun e w' => e = .returned (.bool true) ∧ Below w.heap.size w w' := by
  obtain ⟨k, h⟩ := P a0 a1 w0 w1
  refine (cotterlaw01_WordShifts.calls k a0 a1 true w h).mono ?_
  rintro e w' ⟨rfl, hd⟩
  exact ⟨rfl, hd⟩

end Go.Proofs.Ytpahpebchjajfaa.M
