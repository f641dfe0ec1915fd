/-
  Texts of the proofs of LinkOrder, cut to what the proofs reach and packed by a program of this session (wip/packs.py). Each part begins with what it says; conditions: those told there.
-/
import Derived.Test.YteaealmnmmcbpaaPIB3n1
-- Written by a program of this session (wip/ownprint.py) over the translation. Lean checks it.
namespace Go.Proofs.Yteaealmnmmcbpaa.M
open Go.RowKit Go.Proofs.YteaealmnmmcbpaaW.PrintWords Go.Proofs.YteaealmnmmcbpaaW.PrintLast Go.Proofs.YteaealmnmmcbpaaW.PrintMore
attribute [local go_sem] max2_int min2_int max_two min_two max_three min_three max_four min_four   -- for this text's walks alone
set_option linter.unusedVariables false
set_option linter.unusedSimpArgs false

/-! ### cotterlaw07_LinkOrder: function 4 -/
mutual
def cotterlaw07_LinkOrder.j0 : Nat → List (S40) → Int → Bool → Option (Bool)
  | 0, _, _, _ => none
  | k + 1, x0, x1, x21 => if x21 = true then ((cotterlaw07_live.f).bind fun t299 => (some t299)) else (if x1 < 0 then (cotterlaw07_LinkOrder.j1 k x0 (wrap64 (-(wrap64 (x1 + 1))))) else (cotterlaw07_LinkOrder.j1 k x0 x1))
def cotterlaw07_LinkOrder.j1 : Nat → List (S40) → Int → Option (Bool)
  | 0, _, _ => none
  | k + 1, x0, x1 => if (x0.length : Int) = 0 then (none) else (if 0 ≤ (Int.tmod x1 (x0.length : Int)) then (if (Int.tmod x1 (x0.length : Int)) ≤ (x0.length : Int) then ((some (x0.drop ((Int.tmod x1 (x0.length : Int)) : Int).toNat : List (S40))).bind fun y300 => (if ([] : List (S40)).length + y300.length < 1599289640401 then ((some (([] : List (S40)) ++ y300 : List (S40))).bind fun y305 => ((some (x0.take ((Int.tmod x1 (x0.length : Int)) : Int).toNat : List (S40))).bind fun y308 => (if y305.length + y308.length < 1599289640401 then ((link_Link.f x0).bind fun bt316 => ((link_Link.f (y305 ++ y308)).bind fun bt325 => (if bt316.2.2.2 = 7 then (cotterlaw07_LinkOrder.j2 k bt316.2.2.2 bt325.2.2.2 true bt316.1 bt316.2.1 bt316.2.2.1 bt325.1 bt325.2.1 bt325.2.2.1) else (cotterlaw07_LinkOrder.j2 k bt316.2.2.2 bt325.2.2.2 (bt325.2.2.2 == 7) bt316.1 bt316.2.1 bt316.2.2.1 bt325.1 bt325.2.1 bt325.2.2.1)))) else (none)))) else (none))) else (none)) else (none))
def cotterlaw07_LinkOrder.j2 : Nat → Int → Int → Bool → ByteArray → List Int → List (S36) → ByteArray → List Int → List (S36) → Option (Bool)
  | 0, _, _, _, _, _, _, _, _, _ => none
  | k + 1, x8, x10, x57, x325000, x325001, x325002, x334000, x334001, x334002 => if x57 = true then ((cotterlaw07_live.f).bind fun t334 => (some t334)) else (if ((x8 == 0) != (x10 == 0)) = true then (cotterlaw07_LinkOrder.j3 k true x325000 x325001 x325002 x334000 x334001 x334002) else (if (x325000.size : Int) = (x334000.size : Int) then (if (x325001.length : Int) = (x334001.length : Int) then (cotterlaw07_LinkOrder.j3 k ((x325002.length : Int) != (x334002.length : Int)) x325000 x325001 x325002 x334000 x334001 x334002) else (cotterlaw07_LinkOrder.j3 k true x325000 x325001 x325002 x334000 x334001 x334002)) else (cotterlaw07_LinkOrder.j3 k true x325000 x325001 x325002 x334000 x334001 x334002)))
def cotterlaw07_LinkOrder.j3 : Nat → Bool → ByteArray → List Int → List (S36) → ByteArray → List Int → List (S36) → Option (Bool)
  | 0, _, _, _, _, _, _, _ => none
  | k + 1, x90, x325000, x325001, x325002, x334000, x334001, x334002 => if x90 = true then (some false) else (cotterlaw07_LinkOrder.l0 k 0 x325000 x325001 x325002 x334000 x334001 x334002)
def cotterlaw07_LinkOrder.l0 : Nat → Int → ByteArray → List Int → List (S36) → ByteArray → List Int → List (S36) → Option (Bool)
  | 0, _, _, _, _, _, _, _ => none
  | k + 1, x11, x325000, x325001, x325002, x334000, x334001, x334002 => if x11 < (x325002.length : Int) then (cotterlaw07_LinkOrder.l1 k x11 false 0 x325000 x325001 x325002 x334000 x334001 x334002) else ((cotterlaw07_live.f).bind fun t335 => (some t335))
def cotterlaw07_LinkOrder.l1 : Nat → Int → Bool → Int → ByteArray → List Int → List (S36) → ByteArray → List Int → List (S36) → Option (Bool)
  | 0, _, _, _, _, _, _, _, _, _ => none
  | k + 1, x11, x12, x13, x325000, x325001, x325002, x334000, x334001, x334002 => if x13 < (x334002.length : Int) then (if x12 = true then (cotterlaw07_LinkOrder.l1 k x11 true (wrap64 (x13 + 1)) x325000 x325001 x325002 x334000 x334001 x334002) else (if 0 ≤ x13 then (if 0 ≤ x11 then (if x11 < (x325002.length : Int) then (if ((rd_T36 x334002 x13).f0).toList = ((rd_T36 x325002 x11).f0).toList then (cotterlaw07_LinkOrder.l1 k x11 (((rd_T36 x334002 x13).f1) == ((rd_T36 x325002 x11).f1)) (wrap64 (x13 + 1)) x325000 x325001 x325002 x334000 x334001 x334002) else (cotterlaw07_LinkOrder.l1 k x11 false (wrap64 (x13 + 1)) x325000 x325001 x325002 x334000 x334001 x334002)) else (none)) else (none)) else (none))) else (if x12 = true then (cotterlaw07_LinkOrder.l0 k (wrap64 (x11 + 1)) x325000 x325001 x325002 x334000 x334001 x334002) else (some false))
end
def cotterlaw07_LinkOrder.f (k : Nat) (l0 : List (S40)) (a1 : Int) : Option (Bool) := (cotterlaw07_small.f k l0).bind fun t298 => (if t298 = true then (cotterlaw07_LinkOrder.j0 k l0 a1 ((l0.length : Int) == 0)) else (cotterlaw07_LinkOrder.j0 k l0 a1 true))
set_option maxHeartbeats 8000000 in
set_option maxRecDepth 100000 in
theorem cotterlaw07_LinkOrder.calls (k : Nat) (P0_ : Nat → Prop) (A0 : Option Addr) (c0 : Nat) (l0 : List (S40)) (a1 : Int) (r : Bool) (w : World) (hs0 : Kd.V k40 40 w w.heap.size (fun k_ => P0_ k_) (.slice A0 l0.length c0) l0) (h : cotterlaw07_LinkOrder.f k l0 a1 = some r) :
    Calls Try.prog 4 #[.slice A0 l0.length c0, .int .i64 a1] w fun e w' => e = .returned (.bool r) ∧ Below w.heap.size w w' := by
  have hu29 := Try.underlying29
  have HO0 := Aside0.mk (show Kd.V k40 40 w w.heap.size (fun k_ => (P0_ k_ ∨ w.heap.size ≤ k_)) (.slice A0 l0.length c0) l0 from Kd.V_mono hs0 (fun k_ hk => .inl hk))
  have HB := Aside0.mk (Below.refl w.heap.size w)
  have H : ((cotterlaw07_small.f k l0).bind fun t298 => (if t298 = true then (cotterlaw07_LinkOrder.j0 k l0 a1 ((l0.length : Int) == 0)) else (cotterlaw07_LinkOrder.j0 k l0 a1 true))) = some r := h
  clear h
  have HC3 := Aside0.mk H
  clear H
  go_enter Try.func4, Try.ntmps4
  go_upto_region 1 with (fail)
  repeat (go_quiet (fail); go_upto_region 1 with (fail))
  go_cut [21] (fun v21 wc => ∃ (kq : Nat) (x21_2 : Bool), v21 = .bool x21_2 ∧ Aside0 (cotterlaw07_LinkOrder.j0 kq l0 a1 x21_2 = some r) ∧ Aside0 (kq ≤ k) ∧ Aside0 (Kd.V k40 40 wc w.heap.size (fun k_ => (P0_ k_ ∨ w.heap.size ≤ k_)) (.slice A0 l0.length c0) l0) ∧ Aside0 (Below w.heap.size w wc))
  case first =>
    have H := HC3.out
    clear HC3
    replace H := Option.bind_eq_some_iff.mp H
    obtain ⟨t298, A40, H⟩ := H
    replace H : (if t298 = true then (cotterlaw07_LinkOrder.j0 k l0 a1 ((l0.length : Int) == 0)) else (cotterlaw07_LinkOrder.j0 k l0 a1 true)) = some r := H
    have A4 := Aside0.mk A40
    clear A40
    by_cases c5 : t298 = true
    · subst c5
      have H1 : (cotterlaw07_LinkOrder.j0 k l0 a1 ((l0.length : Int) == 0)) = some r := by rw [if_pos rfl] at H; exact H
      clear H
      have H := H1
      clear H1
      have H' := Aside0.mk H
      clear H
      go_wp2_with (first | (go_at_call 9; (with_reducible refine (cotterlaw07_small.calls k _ _ l0 true _ ?side1 ?side2 A4.out).mono ?_); (case side1 => repeat (first | exact (Kd.V_reads' HO0.out).2.2 | (with_reducible refine Kd.C_alloc ?_ _) | (with_reducible refine Kd.C_drewN ?_ _) | (with_reducible refine Kd.C_drew ?_))); (case side2 => exact (Kd.V_reads' HO0.out).2.1); rintro e w' ⟨rfl, ⟨nd, rfl⟩⟩; (try first | exact ⟨rfl, _, World.drewN_drewN _ _ _⟩ | exact ⟨rfl, _, Eq.trans (World.drewN_drewN _ _ _) (congrArg (World.drewN _) (Nat.add_assoc _ _ _))⟩)))
      repeat (go_quiet (first | (go_at_call 9; (with_reducible refine (cotterlaw07_small.calls k _ _ l0 true _ ?side1 ?side2 A4.out).mono ?_); (case side1 => repeat (first | exact (Kd.V_reads' HO0.out).2.2 | (with_reducible refine Kd.C_alloc ?_ _) | (with_reducible refine Kd.C_drewN ?_ _) | (with_reducible refine Kd.C_drew ?_))); (case side2 => exact (Kd.V_reads' HO0.out).2.1); rintro e w' ⟨rfl, ⟨nd, rfl⟩⟩; (try first | exact ⟨rfl, _, World.drewN_drewN _ _ _⟩ | exact ⟨rfl, _, Eq.trans (World.drewN_drewN _ _ _) (congrArg (World.drewN _) (Nat.add_assoc _ _ _))⟩))); try go_wp2_with (first | (go_at_call 9; (with_reducible refine (cotterlaw07_small.calls k _ _ l0 true _ ?side1 ?side2 A4.out).mono ?_); (case side1 => repeat (first | exact (Kd.V_reads' HO0.out).2.2 | (with_reducible refine Kd.C_alloc ?_ _) | (with_reducible refine Kd.C_drewN ?_ _) | (with_reducible refine Kd.C_drew ?_))); (case side2 => exact (Kd.V_reads' HO0.out).2.1); rintro e w' ⟨rfl, ⟨nd, rfl⟩⟩; (try first | exact ⟨rfl, _, World.drewN_drewN _ _ _⟩ | exact ⟨rfl, _, Eq.trans (World.drewN_drewN _ _ _) (congrArg (World.drewN _) (Nat.add_assoc _ _ _))⟩))))
      go_meet
      case rel => exact ⟨_, (((l0.length : Int) == 0)), (by first | rfl | (simp; done) | (simp [*]; done)), H', ⟨by first | omega | exact Nat.le_refl _⟩, ⟨by (with_reducible repeat (first | apply Kd.V_alloc | apply Kd.V_drewN | apply Kd.V_drew)); exact HO0.out⟩, ⟨by repeat (first | (with_reducible first | exact HB.out | apply below_alloc | apply pw_below_drewN | apply below_drew1) | exact HB.out)⟩⟩
    · replace c5 := Bool.eq_false_iff.mpr c5
      subst c5
      have H1 : (cotterlaw07_LinkOrder.j0 k l0 a1 true) = some r := by rw [if_neg (show ¬ (false = true) by decide)] at H; exact H
      clear H
      have H := H1
      clear H1
      have H' := Aside0.mk H
      clear H
      go_wp2_with (first | (go_at_call 9; (with_reducible refine (cotterlaw07_small.calls k _ _ l0 false _ ?side1 ?side2 A4.out).mono ?_); (case side1 => repeat (first | exact (Kd.V_reads' HO0.out).2.2 | (with_reducible refine Kd.C_alloc ?_ _) | (with_reducible refine Kd.C_drewN ?_ _) | (with_reducible refine Kd.C_drew ?_))); (case side2 => exact (Kd.V_reads' HO0.out).2.1); rintro e w' ⟨rfl, ⟨nd, rfl⟩⟩; (try first | exact ⟨rfl, _, World.drewN_drewN _ _ _⟩ | exact ⟨rfl, _, Eq.trans (World.drewN_drewN _ _ _) (congrArg (World.drewN _) (Nat.add_assoc _ _ _))⟩)))
      repeat (go_quiet (first | (go_at_call 9; (with_reducible refine (cotterlaw07_small.calls k _ _ l0 false _ ?side1 ?side2 A4.out).mono ?_); (case side1 => repeat (first | exact (Kd.V_reads' HO0.out).2.2 | (with_reducible refine Kd.C_alloc ?_ _) | (with_reducible refine Kd.C_drewN ?_ _) | (with_reducible refine Kd.C_drew ?_))); (case side2 => exact (Kd.V_reads' HO0.out).2.1); rintro e w' ⟨rfl, ⟨nd, rfl⟩⟩; (try first | exact ⟨rfl, _, World.drewN_drewN _ _ _⟩ | exact ⟨rfl, _, Eq.trans (World.drewN_drewN _ _ _) (congrArg (World.drewN _) (Nat.add_assoc _ _ _))⟩))); try go_wp2_with (first | (go_at_call 9; (with_reducible refine (cotterlaw07_small.calls k _ _ l0 false _ ?side1 ?side2 A4.out).mono ?_); (case side1 => repeat (first | exact (Kd.V_reads' HO0.out).2.2 | (with_reducible refine Kd.C_alloc ?_ _) | (with_reducible refine Kd.C_drewN ?_ _) | (with_reducible refine Kd.C_drew ?_))); (case side2 => exact (Kd.V_reads' HO0.out).2.1); rintro e w' ⟨rfl, ⟨nd, rfl⟩⟩; (try first | exact ⟨rfl, _, World.drewN_drewN _ _ _⟩ | exact ⟨rfl, _, Eq.trans (World.drewN_drewN _ _ _) (congrArg (World.drewN _) (Nat.add_assoc _ _ _))⟩))))
      go_meet
      case rel => exact ⟨_, (true), (by first | rfl | (simp; done) | (simp [*]; done)), H', ⟨by first | omega | exact Nat.le_refl _⟩, ⟨by (with_reducible repeat (first | apply Kd.V_alloc | apply Kd.V_drewN | apply Kd.V_drew)); exact HO0.out⟩, ⟨by repeat (first | (with_reducible first | exact HB.out | apply below_alloc | apply pw_below_drewN | apply below_drew1) | exact HB.out)⟩⟩
  case rest =>
    clear HC3
    try clear p2
    try clear c4
    try clear c5
    obtain ⟨kq, x21_2, rfl, HA, HJ2, HO_0, HB⟩ := hcut
    cases kq with
    | zero => exact absurd HA.out (by simp [cotterlaw07_LinkOrder.j0])
    | succ kj2 =>
      have H := HA.out
      clear HA
      simp only [cotterlaw07_LinkOrder.j0] at H
      by_cases c6 : x21_2 = true
      · subst c6
        have H1 : ((cotterlaw07_live.f).bind fun t299 => (some t299)) = some r := by rw [if_pos rfl] at H; exact H
        clear H
        have H := H1
        clear H1
        replace H := Option.bind_eq_some_iff.mp H
        obtain ⟨t299, A70, H⟩ := H
        replace H : (some t299) = some r := H
        have A7 := Aside0.mk A70
        clear A70
        obtain rfl := Option.some.inj H
        go_wp2_with (first | (go_at_call 10; (with_reducible refine (cotterlaw07_live.calls  t299 _ A7.out).mono ?_); rintro e w8 ⟨rfl, hb⟩; have n0_ := Aside0.mk (Kd.V_below (by (with_reducible repeat (first | apply Kd.V_alloc | apply Kd.V_drewN | apply Kd.V_drew)); exact HO_0.out) hb); have n1_ := Aside0.mk (below_step (by repeat (first | (with_reducible first | exact HB.out | apply below_alloc | apply pw_below_drewN | apply below_drew1) | exact HB.out)) hb); clear HO_0; clear HB; have HO_0 := n0_; have HB := n1_; clear n0_ n1_; (try clear hb); (try clear hb2); (try clear hk); (try clear hi)))
        repeat (go_quiet (first | (go_at_call 10; (with_reducible refine (cotterlaw07_live.calls  t299 _ A7.out).mono ?_); rintro e w8 ⟨rfl, hb⟩; have n0_ := Aside0.mk (Kd.V_below (by (with_reducible repeat (first | apply Kd.V_alloc | apply Kd.V_drewN | apply Kd.V_drew)); exact HO_0.out) hb); have n1_ := Aside0.mk (below_step (by repeat (first | (with_reducible first | exact HB.out | apply below_alloc | apply pw_below_drewN | apply below_drew1) | exact HB.out)) hb); clear HO_0; clear HB; have HO_0 := n0_; have HB := n1_; clear n0_ n1_; (try clear hb); (try clear hb2); (try clear hk); (try clear hi))); try go_wp2_with (first | (go_at_call 10; (with_reducible refine (cotterlaw07_live.calls  t299 _ A7.out).mono ?_); rintro e w8 ⟨rfl, hb⟩; have n0_ := Aside0.mk (Kd.V_below (by (with_reducible repeat (first | apply Kd.V_alloc | apply Kd.V_drewN | apply Kd.V_drew)); exact HO_0.out) hb); have n1_ := Aside0.mk (below_step (by repeat (first | (with_reducible first | exact HB.out | apply below_alloc | apply pw_below_drewN | apply below_drew1) | exact HB.out)) hb); clear HO_0; clear HB; have HO_0 := n0_; have HB := n1_; clear n0_ n1_; (try clear hb); (try clear hb2); (try clear hk); (try clear hi))))
        go_ret
        exact ⟨by first | rfl | (simp [errW_none, errW_some] <;> rfl) | (simp [*, errW_none, errW_some] <;> rfl), by repeat (first | (with_reducible first | exact HB.out | apply below_alloc | apply pw_below_drewN | apply below_drew1) | exact HB.out)⟩
      · replace c6 := Bool.eq_false_iff.mpr c6
        subst c6
        have H1 : (if a1 < 0 then (cotterlaw07_LinkOrder.j1 kj2 l0 (wrap64 (-(wrap64 (a1 + 1))))) else (cotterlaw07_LinkOrder.j1 kj2 l0 a1)) = some r := by rw [if_neg (show ¬ (false = true) by decide)] at H; exact H
        clear H
        have H := H1
        clear H1
        have HC9 := Aside0.mk H
        clear H
        go_upto_if 24 with (fail)
        repeat (go_quiet (fail); go_upto_if 24 with (fail))
        go_cut [1] (fun v1 wc => ∃ (kq : Nat) (x1_8 : Int), v1 = .int .i64 x1_8 ∧ Aside0 (cotterlaw07_LinkOrder.j1 kq l0 x1_8 = some r) ∧ Aside0 (kq ≤ kj2) ∧ Aside0 (Kd.V k40 40 wc w.heap.size (fun k_ => (P0_ k_ ∨ w.heap.size ≤ k_)) (.slice A0 l0.length c0) l0) ∧ Aside0 (Below w.heap.size w wc))
        case first =>
          have H := HC9.out
          clear HC9
          by_cases c10 : a1 < 0
          · rw [if_pos c10] at H
            have c10b0 : decide (a1 < 0) = true := decide_eq_true c10
            clear c10
            (first | rw [c10b0] | (simp only [i64_w, i32_w]; rw [c10b0]) | skip)
            have H' := Aside0.mk H
            clear H
            go_wp2
            repeat (go_quiet (fail); try go_wp2)
            go_meet
            case rel => exact ⟨_, (wrap64 (-(wrap64 (a1 + 1)))), (by first | rfl | (simp; done) | (simp [*]; done)), H', ⟨by have := HJ2.out; first | omega | exact Nat.le_refl _⟩, ⟨by (with_reducible repeat (first | apply Kd.V_alloc | apply Kd.V_drewN | apply Kd.V_drew)); exact HO_0.out⟩, ⟨by repeat (first | (with_reducible first | exact HB.out | apply below_alloc | apply pw_below_drewN | apply below_drew1) | exact HB.out)⟩⟩
          · rw [if_neg c10] at H
            have c10b0 : decide (a1 < 0) = false := decide_eq_false c10
            clear c10
            (first | rw [c10b0] | (simp only [i64_w, i32_w]; rw [c10b0]) | skip)
            have H' := Aside0.mk H
            clear H
            go_wp2
            repeat (go_quiet (fail); try go_wp2)
            go_meet
            case rel => exact ⟨_, (a1), (by first | rfl | (simp; done) | (simp [*]; done)), H', ⟨by have := HJ2.out; first | omega | exact Nat.le_refl _⟩, ⟨by (with_reducible repeat (first | apply Kd.V_alloc | apply Kd.V_drewN | apply Kd.V_drew)); exact HO_0.out⟩, ⟨by repeat (first | (with_reducible first | exact HB.out | apply below_alloc | apply pw_below_drewN | apply below_drew1) | exact HB.out)⟩⟩
        case rest =>
          clear HC9
          try clear c1
          try clear p2
          try clear c4
          try clear c5
          try clear c6
          try clear p6
          try clear c10
          try clear c10b0
          try clear p2
          obtain ⟨kq, x1_8, rfl, HA, HJ8, HO_0, HB⟩ := hcut
          cases kq with
          | zero => exact absurd HA.out (by simp [cotterlaw07_LinkOrder.j1])
          | succ kj8 =>
            have H := HA.out
            clear HA
            simp only [cotterlaw07_LinkOrder.j1] at H
            by_cases c11 : (l0.length : Int) = 0
            · rw [if_pos c11] at H
              exact absurd H (by simp)
            · rw [if_neg c11] at H
              have c11b0 : ((l0.length : Int) == 0) = false := beq_eq_false_iff_ne.mpr c11
              have c11b1 : ((l0.length : Int) != 0) = true := bne_iff_ne.mpr c11
              have c11b2 : ¬ (l0 = []) := fun h_ => c11 (by rw [h_]; rfl)
              obtain ⟨ji12, hji12⟩ : ∃ j_ : Int, (Int.tmod x1_8 (l0.length : Int)) = j_ := ⟨_, rfl⟩
              replace H : (if 0 ≤ (ji12) then (if (ji12) ≤ (l0.length : Int) then ((some (l0.drop ((ji12) : Int).toNat : List (S40))).bind fun y300 => (if ([] : List (S40)).length + y300.length < 1599289640401 then ((some (([] : List (S40)) ++ y300 : List (S40))).bind fun y305 => ((some (l0.take ((ji12) : Int).toNat : List (S40))).bind fun y308 => (if y305.length + y308.length < 1599289640401 then ((link_Link.f l0).bind fun bt316 => ((link_Link.f (y305 ++ y308)).bind fun bt325 => (if bt316.2.2.2 = 7 then (cotterlaw07_LinkOrder.j2 kj8 bt316.2.2.2 bt325.2.2.2 true bt316.1 bt316.2.1 bt316.2.2.1 bt325.1 bt325.2.1 bt325.2.2.1) else (cotterlaw07_LinkOrder.j2 kj8 bt316.2.2.2 bt325.2.2.2 (bt325.2.2.2 == 7) bt316.1 bt316.2.1 bt316.2.2.1 bt325.1 bt325.2.1 bt325.2.2.1)))) else (none)))) else (none))) else (none)) else (none)) = some r := by first | (rw [hji12] at H; exact H) | (simp only [hji12] at H ⊢; exact H)
              by_cases c13 : 0 ≤ (ji12)
              · rw [if_pos c13] at H
                have c13b0 := eq_true c13
                have c13b1 : decide (0 ≤ (ji12)) = true := decide_eq_true c13
                clear c13
                by_cases c14 : (ji12) ≤ (l0.length : Int)
                · rw [if_pos c14] at H
                  have c14b0 := eq_true c14
                  have c14b1 : decide ((ji12) ≤ (l0.length : Int)) = true := decide_eq_true c14
                  clear c14
                  obtain ⟨y300, hy300⟩ : ∃ y_ : List (S40), y_ = (l0.drop ((ji12) : Int).toNat) := ⟨_, rfl⟩
                  replace H : (if ([] : List (S40)).length + y300.length < 1599289640401 then ((some (([] : List (S40)) ++ y300 : List (S40))).bind fun y305 => ((some (l0.take ((ji12) : Int).toNat : List (S40))).bind fun y308 => (if y305.length + y308.length < 1599289640401 then ((link_Link.f l0).bind fun bt316 => ((link_Link.f (y305 ++ y308)).bind fun bt325 => (if bt316.2.2.2 = 7 then (cotterlaw07_LinkOrder.j2 kj8 bt316.2.2.2 bt325.2.2.2 true bt316.1 bt316.2.1 bt316.2.2.1 bt325.1 bt325.2.1 bt325.2.2.1) else (cotterlaw07_LinkOrder.j2 kj8 bt316.2.2.2 bt325.2.2.2 (bt325.2.2.2 == 7) bt316.1 bt316.2.1 bt316.2.2.1 bt325.1 bt325.2.1 bt325.2.2.1)))) else (none)))) else (none)) = some r := by first | (rw [hy300]; with_reducible exact H) | (have H2_ := (Option.bind_some _ _).symm.trans H; rw [hy300]; with_reducible exact H2_) | (have H2_ := (Option.bind_some _ _).symm.trans H; with_reducible exact H2_) | with_reducible exact H | (rw [hy300]; exact H) | exact H
                  have Ny300 := Aside0.mk hy300
                  clear hy300
                  by_cases c15 : ([] : List (S40)).length + y300.length < 1599289640401
                  · rw [if_pos c15] at H
                    have LMc15 := Aside0.mk c15
                    clear c15
                    obtain ⟨y305, hy305⟩ : ∃ y_ : List (S40), y_ = (([] : List (S40)) ++ y300) := ⟨_, rfl⟩
                    replace H : ((some (l0.take ((ji12) : Int).toNat : List (S40))).bind fun y308 => (if y305.length + y308.length < 1599289640401 then ((link_Link.f l0).bind fun bt316 => ((link_Link.f (y305 ++ y308)).bind fun bt325 => (if bt316.2.2.2 = 7 then (cotterlaw07_LinkOrder.j2 kj8 bt316.2.2.2 bt325.2.2.2 true bt316.1 bt316.2.1 bt316.2.2.1 bt325.1 bt325.2.1 bt325.2.2.1) else (cotterlaw07_LinkOrder.j2 kj8 bt316.2.2.2 bt325.2.2.2 (bt325.2.2.2 == 7) bt316.1 bt316.2.1 bt316.2.2.1 bt325.1 bt325.2.1 bt325.2.2.1)))) else (none))) = some r := by first | (rw [hy305]; with_reducible exact H) | (have H2_ := (Option.bind_some _ _).symm.trans H; rw [hy305]; with_reducible exact H2_) | (have H2_ := (Option.bind_some _ _).symm.trans H; with_reducible exact H2_) | with_reducible exact H | (rw [hy305]; exact H) | exact H
                    have Ny305 := Aside0.mk hy305
                    clear hy305
                    have c16b0 := eq_true (of_decide_eq_true (by first | (with_reducible assumption) | assumption) : 0 ≤ (ji12))
                    have c17b0 := eq_true (of_decide_eq_true (by first | (with_reducible assumption) | assumption) : (ji12) ≤ (l0.length : Int))
                    obtain ⟨y308, hy308⟩ : ∃ y_ : List (S40), y_ = (l0.take ((ji12) : Int).toNat) := ⟨_, rfl⟩
                    replace H : (if y305.length + y308.length < 1599289640401 then ((link_Link.f l0).bind fun bt316 => ((link_Link.f (y305 ++ y308)).bind fun bt325 => (if bt316.2.2.2 = 7 then (cotterlaw07_LinkOrder.j2 kj8 bt316.2.2.2 bt325.2.2.2 true bt316.1 bt316.2.1 bt316.2.2.1 bt325.1 bt325.2.1 bt325.2.2.1) else (cotterlaw07_LinkOrder.j2 kj8 bt316.2.2.2 bt325.2.2.2 (bt325.2.2.2 == 7) bt316.1 bt316.2.1 bt316.2.2.1 bt325.1 bt325.2.1 bt325.2.2.1)))) else (none)) = some r := by first | (rw [hy308]; with_reducible exact H) | (have H2_ := (Option.bind_some _ _).symm.trans H; rw [hy308]; with_reducible exact H2_) | (have H2_ := (Option.bind_some _ _).symm.trans H; with_reducible exact H2_) | with_reducible exact H | (rw [hy308]; exact H) | exact H
                    have Ny308 := Aside0.mk hy308
                    clear hy308
                    by_cases c18 : y305.length + y308.length < 1599289640401
                    · rw [if_pos c18] at H
                      have LMc18 := Aside0.mk c18
                      clear c18
                      obtain ⟨y313, hy313⟩ : ∃ y_ : List (S40), y_ = (y305 ++ y308) := ⟨_, rfl⟩
                      replace H : ((link_Link.f l0).bind fun bt316 => ((link_Link.f y313).bind fun bt325 => (if bt316.2.2.2 = 7 then (cotterlaw07_LinkOrder.j2 kj8 bt316.2.2.2 bt325.2.2.2 true bt316.1 bt316.2.1 bt316.2.2.1 bt325.1 bt325.2.1 bt325.2.2.1) else (cotterlaw07_LinkOrder.j2 kj8 bt316.2.2.2 bt325.2.2.2 (bt325.2.2.2 == 7) bt316.1 bt316.2.1 bt316.2.2.1 bt325.1 bt325.2.1 bt325.2.2.1)))) = some r := by first | (rw [hy313]; with_reducible exact H) | (have H2_ := (Option.bind_some _ _).symm.trans H; rw [hy313]; with_reducible exact H2_) | (have H2_ := (Option.bind_some _ _).symm.trans H; with_reducible exact H2_) | with_reducible exact H | (rw [hy313]; exact H) | exact H
                      have Ny313 := Aside0.mk hy313
                      clear hy313
                      replace H := Option.bind_eq_some_iff.mp H
                      obtain ⟨⟨t316, t317, t320, t323⟩, A190, H⟩ := H
                      replace H : ((link_Link.f y313).bind fun bt325 => (if t323 = 7 then (cotterlaw07_LinkOrder.j2 kj8 t323 bt325.2.2.2 true t316 t317 t320 bt325.1 bt325.2.1 bt325.2.2.1) else (cotterlaw07_LinkOrder.j2 kj8 t323 bt325.2.2.2 (bt325.2.2.2 == 7) t316 t317 t320 bt325.1 bt325.2.1 bt325.2.2.1))) = some r := H
                      have A19 := Aside0.mk A190
                      clear A190
                      replace H := Option.bind_eq_some_iff.mp H
                      obtain ⟨⟨t325, t326, t329, t332⟩, A200, H⟩ := H
                      replace H : (if t323 = 7 then (cotterlaw07_LinkOrder.j2 kj8 t323 t332 true t316 t317 t320 t325 t326 t329) else (cotterlaw07_LinkOrder.j2 kj8 t323 t332 (t332 == 7) t316 t317 t320 t325 t326 t329)) = some r := H
                      have A20 := Aside0.mk A200
                      clear A200
                      have HC21 := Aside0.mk H
                      clear H
                      have q22 : ((ji12) : Int) ≤ ((l0.length : Int) : Int) := of_decide_eq_true (by first | (with_reducible assumption) | assumption)
                      obtain ⟨i022, hi022, _, hsz22, _⟩ := info_parts info40
                      have hroom22 : l0.length ≤ c0 := (Kd.V_reads' HO_0.out).2.1
                      have hC22 : Kd.F k40 _ _ A0 l0.length l0 := (Kd.V_at (base := w.heap.size) HO_0.out).2.2
                      have q022 : (0 : Int) ≤ ((ji12) : Int) := of_decide_eq_true (by first | (with_reducible assumption) | assumption)
                      have hcut22 := cut_from (P := Try.prog) 22 40 .i64 Try.underlying22 hi022 4 hsz22 A0 l0.length c0 (ji12) q022 q22
                      have hr22 := Kd.F_cut (m := ((ji12) : Int).toNat) (c := c0) hC22 (by omega) hroom22
                      obtain ⟨A22, hA22⟩ : ∃ A1, A1 = (if c0 = ((ji12) : Int).toNat then A0 else (A0 : Option Addr).map (·.add (((ji12) : Int).toNat * 4))) := ⟨_, rfl⟩
                      obtain ⟨c22, hc22⟩ : ∃ c1, c1 = c0 - ((ji12) : Int).toNat := ⟨_, rfl⟩
                      have hy22 : y300.length = l0.length - ((ji12) : Int).toNat := (by rw [Ny300.out, List.length_drop] <;> omega)
                      rw [show (l0).drop ((ji12) : Int).toNat = y300 from Ny300.out.symm] at hr22
                      replace hr22 : Kd.F k40 _ _ A22 y300.length y300 := (by rw [hA22]; exact hr22)
                      rw [← hy22, ← hA22, ← hc22] at hcut22
                      have HO304 := Aside0.mk (show Kd.V k40 40 _ w.heap.size _ (.slice A22 y300.length c22) y300 from Kd.V_mk (by rw [hy22, hc22]; exact Nat.sub_le_sub_right hroom22 _) hr22)
                      have HC304 := Aside0.mk (show y300.length ≤ c22 from by rw [hy22, hc22]; exact Nat.sub_le_sub_right hroom22 _)
                      clear hr22 hC22 hroom22 hi022 hsz22 hc22
                      have KY22 := Aside0.mk hy22
                      have KA22 := Aside0.mk hA22
                      clear hy22 hA22
                      replace q22 := eq_true q22
                      go_upto_region 11 with (first | ((with_reducible refine gate_builtin (b := .append) (xs := #[.tmp 32, .tmp 35]) rfl ?_); (try (refine gate_guard (by rfl) ?_; dsimp only)); at_builtin; refine Kd.N_append_rows k40 (w0 := w) w.heap.size rfl (.tmp 32) (.tmp 35) 22 40 (.agg #[(.string ⟨#[]⟩), (.slice none 0 0), (.slice none 0 0), (.slice none 0 0)]) 88 rfl Try.underlying22 info40 rfl (by decide) (by omega) (.slice none 0 0) ([] : List (S40)) y300 _ _ _ (fun k_ => (P0_ k_ ∨ w.heap.size ≤ k_)) (fun k_ => ((fun k_ => (P0_ k_ ∨ w.heap.size ≤ k_))) k_ ∧ some k_ ≠ (.slice none 0 0 : Value).ownBlock) rfl rfl ?aO ?aR (fun _ hk => hk) ?aF ?aB ?aS ?aL ?_; (case aR => exact (by skip; exact Kd.V_F (Kd.V_mono (ok' := (fun k_ => ((fun k_ => (P0_ k_ ∨ w.heap.size ≤ k_))) k_ ∧ some k_ ≠ (.slice none 0 0 : Value).ownBlock)) (HO304.out) (fun k_ hk => ⟨hk, (by simp [Value.ownBlock])⟩)))); (case aB => exact (by repeat (first | (with_reducible first | exact HB.out | apply below_alloc | apply pw_below_drewN | apply below_drew1) | exact HB.out))); (case aF => exact (fun k_ hk => (.inr (Nat.le_trans (below_size (by repeat (first | (with_reducible first | exact HB.out | apply below_alloc | apply pw_below_drewN | apply below_drew1) | exact HB.out))) hk)))); (case aO => exact ((Kd.N_nil _ _ _ _ (fun k_ => (P0_ k_ ∨ w.heap.size ≤ k_))))); (case aS => exact (below_size (by repeat (first | (with_reducible first | exact HB.out | apply below_alloc | apply pw_below_drewN | apply below_drew1) | exact HB.out)))); (case aL => have := LMc15.out; omega); intro v306 w23 ho hb hg hat; rw [← Ny305.out] at ho; have n0_ := Aside0.mk (Kd.V_afterv (Kd.V_apart_nil (by (with_reducible repeat (first | apply Kd.V_alloc | apply Kd.V_drewN | apply Kd.V_drew)); exact HO_0.out)) hg hat); have n1_ := Aside0.mk (Kd.V_afterv (Kd.V_apart_nil (by (with_reducible repeat (first | apply Kd.V_alloc | apply Kd.V_drewN | apply Kd.V_drew)); exact HO304.out)) hg hat); have n2_ := Aside0.mk (hb); have n3_ := Aside0.mk (ho); clear HO_0; clear HO304; clear HB; have HO_0 := n0_; have HO304 := n1_; have HB := n2_; have HO307 := n3_; clear n0_ n1_ n2_ n3_; clear ho hb hg hat; have q24 : ((ji12) : Int) ≤ ((l0.length : Int) : Int) := of_decide_eq_true (by first | (with_reducible assumption) | assumption); obtain ⟨i024, hi024, _, hsz24, _⟩ := info_parts info40; have hroom24 : l0.length ≤ c0 := (Kd.V_reads' HO_0.out).2.1; have hC24 : Kd.F k40 _ _ A0 l0.length l0 := (Kd.V_at (base := w.heap.size) HO_0.out).2.2; have hcut24 := cut_to (P := Try.prog) 22 40 .i64 Try.underlying22 hi024 A0 l0.length c0 (ji12) (of_decide_eq_true (by first | (with_reducible assumption) | assumption)) q24 hroom24; have hr24 := Kd.F_take (m := ((ji12) : Int).toNat) hC24 (by omega); have hy24 : y308.length = ((ji12) : Int).toNat := (by rw [Ny308.out, List.length_take]; omega); rw [← Ny308.out] at hr24; rw [← hy24] at hcut24; have HO312 := Aside0.mk (show Kd.V k40 40 _ w.heap.size _ (.slice A0 y308.length c0) y308 from Kd.V_mk (by omega) hr24); have HC312 := Aside0.mk (show y308.length ≤ c0 from by omega); clear hr24 hC24 hroom24 hi024 hsz24; have KY24 := Aside0.mk hy24; clear hy24; replace q24 := eq_true q24) | ((with_reducible refine gate_builtin (b := .append) (xs := #[.tmp 37, .tmp 40]) rfl ?_); (try (refine gate_guard (by rfl) ?_; dsimp only)); at_builtin; refine Kd.N_append_rows k40 (w0 := w) w.heap.size rfl (.tmp 37) (.tmp 40) 22 40 (.agg #[(.string ⟨#[]⟩), (.slice none 0 0), (.slice none 0 0), (.slice none 0 0)]) 88 rfl Try.underlying22 info40 rfl (by decide) (by omega) v306 y305 y308 _ _ _ (fun k_ => (P0_ k_ ∨ w.heap.size ≤ k_)) (fun k_ => ((fun k_ => (P0_ k_ ∨ w.heap.size ≤ k_))) k_ ∧ some k_ ≠ (v306 : Value).ownBlock) rfl rfl ?aO ?aR (fun _ hk => hk) ?aF ?aB ?aS ?aL ?_; (case aR => exact (by skip; exact Kd.V_F (Kd.V_mono (ok' := (fun k_ => ((fun k_ => (P0_ k_ ∨ w.heap.size ≤ k_))) k_ ∧ some k_ ≠ (v306 : Value).ownBlock)) (HO312.out) (fun k_ hk => ⟨hk.1, hk.2⟩)))); (case aB => exact (by repeat (first | (with_reducible first | exact HB.out | apply below_alloc | apply pw_below_drewN | apply below_drew1) | exact HB.out))); (case aF => exact (fun k_ hk => (.inr (Nat.le_trans (below_size (by repeat (first | (with_reducible first | exact HB.out | apply below_alloc | apply pw_below_drewN | apply below_drew1) | exact HB.out))) hk)))); (case aO => exact (by (with_reducible repeat (first | apply Kd.N_alloc | apply Kd.N_drewN | apply Kd.N_drew)); exact HO307.out)); (case aS => exact (below_size (by repeat (first | (with_reducible first | exact HB.out | apply below_alloc | apply pw_below_drewN | apply below_drew1) | exact HB.out)))); (case aL => have := LMc18.out; omega); intro v314 w25 ho hb hg hat; rw [← Ny313.out] at ho; have n0_ := Aside0.mk (Kd.V_afterv (ok := (fun k_ => (P0_ k_ ∨ w.heap.size ≤ k_))) (by (with_reducible repeat (first | apply Kd.V_alloc | apply Kd.V_drewN | apply Kd.V_drew)); exact HO_0.out) hg hat); have n1_ := Aside0.mk (Kd.V_afterv (ok := (fun k_ => (P0_ k_ ∨ w.heap.size ≤ k_))) (by (with_reducible repeat (first | apply Kd.V_alloc | apply Kd.V_drewN | apply Kd.V_drew)); exact HO304.out) hg hat); have n2_ := Aside0.mk (Kd.V_afterv (ok := (fun k_ => (P0_ k_ ∨ w.heap.size ≤ k_))) (by (with_reducible repeat (first | apply Kd.V_alloc | apply Kd.V_drewN | apply Kd.V_drew)); exact HO312.out) hg hat); have n3_ := Aside0.mk (hb); have n4_ := Aside0.mk (ho); clear HO_0; clear HO304; clear HO312; clear HB; clear HO307; have HO_0 := n0_; have HO304 := n1_; have HO312 := n2_; have HB := n3_; have HO315 := n4_; clear n0_ n1_ n2_ n3_ n4_; clear ho hb hg hat) | (go_at_call 12; (with_reducible refine (link_Link.calls _ _ l0 t316 t317 t320 t323 _ ?side1 ?side2 A19.out).mono ?_); (case side1 => repeat (first | exact (Kd.V_reads' HO_0.out).2.2 | (with_reducible refine Kd.C_alloc ?_ _) | (with_reducible refine Kd.C_drewN ?_ _) | (with_reducible refine Kd.C_drew ?_))); (case side2 => exact (Kd.V_reads' HO_0.out).2.1); rintro e w26 ⟨v318, v321, rfl, ho0, ho1, hb⟩; have n0_ := Aside0.mk (Kd.V_mono (Kd.V_told (Kd.V_told (Kd.V_old (by (with_reducible repeat (first | apply Kd.V_alloc | apply Kd.V_drewN | apply Kd.V_drew)); exact HO_0.out) hb) (Kd.R_base ho0)) (Kd.R_base ho1)) (fun _ h_ => h_.1)); have n1_ := Aside0.mk (Kd.V_mono (Kd.V_told (Kd.V_told (Kd.V_old (by (with_reducible repeat (first | apply Kd.V_alloc | apply Kd.V_drewN | apply Kd.V_drew)); exact HO304.out) hb) (Kd.R_base ho0)) (Kd.R_base ho1)) (fun _ h_ => h_.1)); have n2_ := Aside0.mk (Kd.V_mono (Kd.V_told (Kd.V_told (Kd.V_old (by (with_reducible repeat (first | apply Kd.V_alloc | apply Kd.V_drewN | apply Kd.V_drew)); exact HO312.out) hb) (Kd.R_base ho0)) (Kd.R_base ho1)) (fun _ h_ => h_.1)); have n3_ := Aside0.mk (Kd.N_mono (Kd.N_told (Kd.N_told (Kd.N_old (by (with_reducible repeat (first | apply Kd.N_alloc | apply Kd.N_drewN | apply Kd.N_drew)); exact HO315.out) hb) (Kd.R_base ho0)) (Kd.R_base ho1)) (fun _ h_ => h_.1)); have n4_ := Aside0.mk (Kd.R_lower (Kd.R_newM (M := fun k_ => (w.heap.size ≤ k_)) ho0 (below_size (by repeat (first | (with_reducible first | exact HB.out | apply below_alloc | apply pw_below_drewN | apply below_drew1) | exact HB.out))) (fun k_ h_ => h_)) (below_size (by repeat (first | (with_reducible first | exact HB.out | apply below_alloc | apply pw_below_drewN | apply below_drew1) | exact HB.out)))); have n5_ := Aside0.mk (Kd.R_lower (Kd.R_newM (M := fun k_ => (w.heap.size ≤ k_)) ho1 (below_size (by repeat (first | (with_reducible first | exact HB.out | apply below_alloc | apply pw_below_drewN | apply below_drew1) | exact HB.out))) (fun k_ h_ => h_)) (below_size (by repeat (first | (with_reducible first | exact HB.out | apply below_alloc | apply pw_below_drewN | apply below_drew1) | exact HB.out)))); have n6_ := Aside0.mk (below_step (by repeat (first | (with_reducible first | exact HB.out | apply below_alloc | apply pw_below_drewN | apply below_drew1) | exact HB.out)) hb); clear HO_0; clear HO304; clear HO312; clear HO315; clear HB; have HO_0 := n0_; have HO304 := n1_; have HO312 := n2_; have HO315 := n3_; have HO319 := n4_; have HO322 := n5_; have HB := n6_; clear n0_ n1_ n2_ n3_ n4_ n5_ n6_; (try clear hb); (try clear hb2); (try clear hk); (try clear hi); (try clear ho0); (try clear ho1)) | ((with_reducible refine gate_dst (N := 7) rfl ?_); (try (refine gate_guard (by rfl) ?_; dsimp only)); refine box_event ?hg (N := 7) ?hd (cs := #[.string (⟨#[]⟩ : ByteArray), .slice none 0 0, .slice none 0 0]) (t := 29) ?hr ?_; (case hd => rfl); (case hg => rfl); (case hr => first | (go_simp; done) | (go_simp; rfl)); intro gb324 hg w27 hbox hb; have n0_ := Aside0.mk (Kd.V_below (Kd.V_elderB (by (with_reducible repeat (first | apply Kd.V_alloc | apply Kd.V_drewN | apply Kd.V_drew)); exact HO_0.out) gb324 (Nat.le_of_eq hg.symm)) hb); have n1_ := Aside0.mk (Kd.V_below (Kd.V_elderB (by (with_reducible repeat (first | apply Kd.V_alloc | apply Kd.V_drewN | apply Kd.V_drew)); exact HO304.out) gb324 (Nat.le_of_eq hg.symm)) hb); have n2_ := Aside0.mk (Kd.V_below (Kd.V_elderB (by (with_reducible repeat (first | apply Kd.V_alloc | apply Kd.V_drewN | apply Kd.V_drew)); exact HO312.out) gb324 (Nat.le_of_eq hg.symm)) hb); have n3_ := Aside0.mk (Kd.N_below (Kd.N_elderB (by (with_reducible repeat (first | apply Kd.N_alloc | apply Kd.N_drewN | apply Kd.N_drew)); exact HO315.out) gb324 (Nat.le_of_eq hg.symm)) hb); have n4_ := Aside0.mk (Kd.R_below (by (with_reducible repeat (first | apply Kd.R_alloc | apply Kd.R_drewN | apply Kd.R_drew)); exact HO319.out) hb); have n5_ := Aside0.mk (Kd.R_below (by (with_reducible repeat (first | apply Kd.R_alloc | apply Kd.R_drewN | apply Kd.R_drew)); exact HO322.out) hb); have n6_ := Aside0.mk (below_step (by repeat (first | (with_reducible first | exact HB.out | apply below_alloc | apply pw_below_drewN | apply below_drew1) | exact HB.out)) hb); have n7_ := Aside0.mk (hbox); have n8_ := Aside0.mk ((by rw [hg]; exact (below_size (by repeat (first | (with_reducible first | exact HB.out | apply below_alloc | apply pw_below_drewN | apply below_drew1) | exact HB.out))) : w.heap.size ≤ gb324)); have n9_ := Aside0.mk ((by rw [hg]; exact (below_size (by repeat (first | (with_reducible first | exact HB.out | apply below_alloc | apply pw_below_drewN | apply below_drew1) | exact HB.out))) : w.heap.size ≤ gb324)); clear HO_0; clear HO304; clear HO312; clear HO315; clear HO319; clear HO322; clear HB; have HO_0 := n0_; have HO304 := n1_; have HO312 := n2_; have HO315 := n3_; have HO319 := n4_; have HO322 := n5_; have HB := n6_; have BK324 := n7_; have GW324 := n8_; have GE324 := n9_; clear n0_ n1_ n2_ n3_ n4_ n5_ n6_ n7_ n8_ n9_; clear hb hbox hg; have hcz28_0 : w27.cell? ⟨gb324, 0, none⟩ = some (.string (⟨#[]⟩ : ByteArray)) := (blk_cell BK324.out 0).trans rfl; have hcz28_1 : w27.cell? ⟨gb324, 1, none⟩ = some (.slice none 0 0) := (blk_cell BK324.out 1).trans rfl; have hcz28_2 : w27.cell? ⟨gb324, 2, none⟩ = some (.slice none 0 0) := (blk_cell BK324.out 2).trans rfl; have hfz28_0 := blk_frozen BK324.out 0; have hfz28_1 := blk_frozen BK324.out 1; have hfz28_2 := blk_frozen BK324.out 2; obtain ⟨Ao29, co29, eo29⟩ := Kd.R_slice HO319.out; subst eo29; obtain ⟨Ao30, co30, eo30⟩ := Kd.R_slice HO322.out; subst eo30; obtain ⟨Ao31, co31, eo31⟩ := Kd.N_slice HO315.out; subst eo31) | (go_at_call 12; (with_reducible refine (link_Link.calls _ _ y313 t325 t326 t329 t332 _ ?side1 ?side2 A20.out).mono ?_); (case side1 => refine (Kd.N_reads' (e := 40) (base := w.heap.size) (ok := fun k_ => ((((P0_ k_ ∨ w.heap.size ≤ k_) ∧ some k_ ≠ (.slice Ao29 t317.length co29 : Value).ownBlock) ∧ some k_ ≠ (.slice Ao30 t320.length co30 : Value).ownBlock) ∧ k_ ≠ gb324)) (n := y313.length) (c := co31) ?_).2.2; exact (by (with_reducible repeat (first | apply Kd.N_alloc | apply Kd.N_drewN | apply Kd.N_drew)); exact (Kd.N_mono (Kd.N_far (p := ⟨gb324, 2, none⟩) (Kd.N_far (p := ⟨gb324, 1, none⟩) (Kd.N_far (p := ⟨gb324, 0, none⟩) (Kd.N_mono HO315.out (fun k_ hk => (⟨hk, hk.2⟩ : _ ∧ k_ ≠ gb324))) (fun _ hk => hk.2) (.string t316)) (fun _ hk => hk.2) (.slice Ao29 t317.length co29)) (fun _ hk => hk.2) (.slice Ao30 t320.length co30)) (fun _ h_ => h_.1)))); (case side2 => exact (Kd.N_reads' HO315.out).2.1); rintro e w32 ⟨v327, v330, rfl, ho0, ho1, hb⟩; have n0_ := Aside0.mk (Kd.V_mono (Kd.V_told (Kd.V_told (Kd.V_old (by (with_reducible repeat (first | apply Kd.V_alloc | apply Kd.V_drewN | apply Kd.V_drew)); exact (Kd.V_mono (Kd.V_far (p := ⟨gb324, 2, none⟩) (Kd.V_far (p := ⟨gb324, 1, none⟩) (Kd.V_far (p := ⟨gb324, 0, none⟩) (Kd.V_mono HO_0.out (fun k_ hk => (⟨hk, hk.2⟩ : _ ∧ k_ ≠ gb324))) (fun _ hk => hk.2) (.string t316)) (fun _ hk => hk.2) (.slice Ao29 t317.length co29)) (fun _ hk => hk.2) (.slice Ao30 t320.length co30)) (fun _ h_ => h_.1))) hb) (Kd.R_base ho0)) (Kd.R_base ho1)) (fun _ h_ => h_.1)); have n1_ := Aside0.mk (Kd.V_mono (Kd.V_told (Kd.V_told (Kd.V_old (by (with_reducible repeat (first | apply Kd.V_alloc | apply Kd.V_drewN | apply Kd.V_drew)); exact (Kd.V_mono (Kd.V_far (p := ⟨gb324, 2, none⟩) (Kd.V_far (p := ⟨gb324, 1, none⟩) (Kd.V_far (p := ⟨gb324, 0, none⟩) (Kd.V_mono HO304.out (fun k_ hk => (⟨hk, hk.2⟩ : _ ∧ k_ ≠ gb324))) (fun _ hk => hk.2) (.string t316)) (fun _ hk => hk.2) (.slice Ao29 t317.length co29)) (fun _ hk => hk.2) (.slice Ao30 t320.length co30)) (fun _ h_ => h_.1))) hb) (Kd.R_base ho0)) (Kd.R_base ho1)) (fun _ h_ => h_.1)); have n2_ := Aside0.mk (Kd.V_mono (Kd.V_told (Kd.V_told (Kd.V_old (by (with_reducible repeat (first | apply Kd.V_alloc | apply Kd.V_drewN | apply Kd.V_drew)); exact (Kd.V_mono (Kd.V_far (p := ⟨gb324, 2, none⟩) (Kd.V_far (p := ⟨gb324, 1, none⟩) (Kd.V_far (p := ⟨gb324, 0, none⟩) (Kd.V_mono HO312.out (fun k_ hk => (⟨hk, hk.2⟩ : _ ∧ k_ ≠ gb324))) (fun _ hk => hk.2) (.string t316)) (fun _ hk => hk.2) (.slice Ao29 t317.length co29)) (fun _ hk => hk.2) (.slice Ao30 t320.length co30)) (fun _ h_ => h_.1))) hb) (Kd.R_base ho0)) (Kd.R_base ho1)) (fun _ h_ => h_.1)); have n3_ := Aside0.mk (Kd.N_mono (Kd.N_told (Kd.N_told (Kd.N_old (by (with_reducible repeat (first | apply Kd.N_alloc | apply Kd.N_drewN | apply Kd.N_drew)); exact (Kd.N_mono (Kd.N_far (p := ⟨gb324, 2, none⟩) (Kd.N_far (p := ⟨gb324, 1, none⟩) (Kd.N_far (p := ⟨gb324, 0, none⟩) (Kd.N_mono HO315.out (fun k_ hk => (⟨hk, hk.2⟩ : _ ∧ k_ ≠ gb324))) (fun _ hk => hk.2) (.string t316)) (fun _ hk => hk.2) (.slice Ao29 t317.length co29)) (fun _ hk => hk.2) (.slice Ao30 t320.length co30)) (fun _ h_ => h_.1))) hb) (Kd.R_base ho0)) (Kd.R_base ho1)) (fun _ h_ => h_.1)); have n4_ := Aside0.mk (Kd.R_elder' (by (with_reducible repeat (first | apply Kd.R_alloc | apply Kd.R_drewN | apply Kd.R_drew)); exact (Kd.R_mono (Kd.R_far (p := ⟨gb324, 2, none⟩) (Kd.R_far (p := ⟨gb324, 1, none⟩) (Kd.R_far (p := ⟨gb324, 0, none⟩) (Kd.R_types HO319.out BK324.out (by decide)) (fun _ hk => hk.2) (.string t316)) (fun _ hk => hk.2) (.slice Ao29 t317.length co29)) (fun _ hk => hk.2) (.slice Ao30 t320.length co30)) (fun _ h_ => h_.1))) (Kd.R_base ho0) hb); have n5_ := Aside0.mk (Kd.R_elder' (by (with_reducible repeat (first | apply Kd.R_alloc | apply Kd.R_drewN | apply Kd.R_drew)); exact (Kd.R_mono (Kd.R_far (p := ⟨gb324, 2, none⟩) (Kd.R_far (p := ⟨gb324, 1, none⟩) (Kd.R_far (p := ⟨gb324, 0, none⟩) (Kd.R_types HO322.out BK324.out (by decide)) (fun _ hk => hk.2) (.string t316)) (fun _ hk => hk.2) (.slice Ao29 t317.length co29)) (fun _ hk => hk.2) (.slice Ao30 t320.length co30)) (fun _ h_ => h_.1))) (Kd.R_base ho1) hb); have n6_ := Aside0.mk (Kd.R_lower (Kd.R_new' (Kd.R_newM (M := fun k_ => (w.heap.size ≤ k_)) ho0 (below_size (by repeat (first | (with_reducible first | exact HB.out | apply below_alloc | apply pw_below_drewN | apply below_drew1 | refine below_set ?_ GE324.out) | exact HB.out))) (fun k_ h_ => h_)) (Kd.R_lt (by (with_reducible repeat (first | apply Kd.R_alloc | apply Kd.R_drewN | apply Kd.R_drew)); exact (Kd.R_mono (Kd.R_far (p := ⟨gb324, 2, none⟩) (Kd.R_far (p := ⟨gb324, 1, none⟩) (Kd.R_far (p := ⟨gb324, 0, none⟩) (Kd.R_types HO319.out BK324.out (by decide)) (fun _ hk => hk.2) (.string t316)) (fun _ hk => hk.2) (.slice Ao29 t317.length co29)) (fun _ hk => hk.2) (.slice Ao30 t320.length co30)) (fun _ h_ => h_.1))))) (below_size (by repeat (first | (with_reducible first | exact HB.out | apply below_alloc | apply pw_below_drewN | apply below_drew1 | refine below_set ?_ GE324.out) | exact HB.out)))); have n7_ := Aside0.mk (Kd.R_lower (Kd.R_new' (Kd.R_newM (M := fun k_ => (w.heap.size ≤ k_)) ho1 (below_size (by repeat (first | (with_reducible first | exact HB.out | apply below_alloc | apply pw_below_drewN | apply below_drew1 | refine below_set ?_ GE324.out) | exact HB.out))) (fun k_ h_ => h_)) (Kd.R_lt (by (with_reducible repeat (first | apply Kd.R_alloc | apply Kd.R_drewN | apply Kd.R_drew)); exact (Kd.R_mono (Kd.R_far (p := ⟨gb324, 2, none⟩) (Kd.R_far (p := ⟨gb324, 1, none⟩) (Kd.R_far (p := ⟨gb324, 0, none⟩) (Kd.R_types HO322.out BK324.out (by decide)) (fun _ hk => hk.2) (.string t316)) (fun _ hk => hk.2) (.slice Ao29 t317.length co29)) (fun _ hk => hk.2) (.slice Ao30 t320.length co30)) (fun _ h_ => h_.1))))) (below_size (by repeat (first | (with_reducible first | exact HB.out | apply below_alloc | apply pw_below_drewN | apply below_drew1 | refine below_set ?_ GE324.out) | exact HB.out)))); have n8_ := Aside0.mk (blk_below (g := gb324) (o := .cells #[.string t316, .slice Ao29 t317.length co29, .slice Ao30 t320.length co30] 29 (0, 0)) (by (with_reducible repeat (first | refine blk_drewN ?_ _ | refine blk_drew ?_ | refine blk_alloc ?_ _)); refine blk_put (cs := #[.string t316, .slice Ao29 t317.length co29, .slice none 0 0]) ?_ 2 _ rfl; (with_reducible repeat (first | refine blk_drewN ?_ _ | refine blk_drew ?_ | refine blk_alloc ?_ _)); refine blk_put (cs := #[.string t316, .slice none 0 0, .slice none 0 0]) ?_ 1 _ rfl; (with_reducible repeat (first | refine blk_drewN ?_ _ | refine blk_drew ?_ | refine blk_alloc ?_ _)); refine blk_put (cs := #[.string (⟨#[]⟩ : ByteArray), .slice none 0 0, .slice none 0 0]) ?_ 0 _ rfl; (with_reducible repeat (first | refine blk_drewN ?_ _ | refine blk_drew ?_ | refine blk_alloc ?_ _)); exact BK324.out) hb); have n9_ := Aside0.mk (below_step (by repeat (first | (with_reducible first | exact HB.out | apply below_alloc | apply pw_below_drewN | apply below_drew1 | refine below_set ?_ GE324.out) | exact HB.out)) hb); clear HO_0; clear HO304; clear HO312; clear HO315; clear HO319; clear HO322; clear BK324; clear HB; have HO_0 := n0_; have HO304 := n1_; have HO312 := n2_; have HO315 := n3_; have HO319 := n4_; have HO322 := n5_; have HO328 := n6_; have HO331 := n7_; have BK324 := n8_; have HB := n9_; clear n0_ n1_ n2_ n3_ n4_ n5_ n6_ n7_ n8_ n9_; (try clear hb); (try clear hb2); (try clear hk); (try clear hi); (try clear ho0); (try clear ho1)) | ((with_reducible refine gate_dst (N := 9) rfl ?_); (try (refine gate_guard (by rfl) ?_; dsimp only)); refine box_event ?hg (N := 9) ?hd (cs := #[.string (⟨#[]⟩ : ByteArray), .slice none 0 0, .slice none 0 0]) (t := 29) ?hr ?_; (case hd => rfl); (case hg => rfl); (case hr => first | (go_simp; done) | (go_simp; rfl)); intro gb333 hg w33 hbox hb; have n0_ := Aside0.mk (Kd.V_below (Kd.V_elderB (by (with_reducible repeat (first | apply Kd.V_alloc | apply Kd.V_drewN | apply Kd.V_drew)); exact HO_0.out) gb333 (Nat.le_of_eq hg.symm)) hb); have n1_ := Aside0.mk (Kd.V_below (Kd.V_elderB (by (with_reducible repeat (first | apply Kd.V_alloc | apply Kd.V_drewN | apply Kd.V_drew)); exact HO304.out) gb333 (Nat.le_of_eq hg.symm)) hb); have n2_ := Aside0.mk (Kd.V_below (Kd.V_elderB (by (with_reducible repeat (first | apply Kd.V_alloc | apply Kd.V_drewN | apply Kd.V_drew)); exact HO312.out) gb333 (Nat.le_of_eq hg.symm)) hb); have n3_ := Aside0.mk (Kd.N_below (Kd.N_elderB (by (with_reducible repeat (first | apply Kd.N_alloc | apply Kd.N_drewN | apply Kd.N_drew)); exact HO315.out) gb333 (Nat.le_of_eq hg.symm)) hb); have n4_ := Aside0.mk (Kd.R_below (by (with_reducible repeat (first | apply Kd.R_alloc | apply Kd.R_drewN | apply Kd.R_drew)); exact HO319.out) hb); have n5_ := Aside0.mk (Kd.R_below (by (with_reducible repeat (first | apply Kd.R_alloc | apply Kd.R_drewN | apply Kd.R_drew)); exact HO322.out) hb); have n6_ := Aside0.mk (Kd.R_below (by (with_reducible repeat (first | apply Kd.R_alloc | apply Kd.R_drewN | apply Kd.R_drew)); exact HO328.out) hb); have n7_ := Aside0.mk (Kd.R_below (by (with_reducible repeat (first | apply Kd.R_alloc | apply Kd.R_drewN | apply Kd.R_drew)); exact HO331.out) hb); have n8_ := Aside0.mk (blk_below (g := gb324) (o := .cells #[.string t316, .slice Ao29 t317.length co29, .slice Ao30 t320.length co30] 29 (0, 0)) (by (with_reducible repeat (first | refine blk_drewN ?_ _ | refine blk_drew ?_ | refine blk_alloc ?_ _)); exact BK324.out) hb); have n9_ := Aside0.mk (below_step (by repeat (first | (with_reducible first | exact HB.out | apply below_alloc | apply pw_below_drewN | apply below_drew1 | refine below_set ?_ GE324.out) | exact HB.out)) hb); have n10_ := Aside0.mk (hbox); have n11_ := Aside0.mk ((by rw [hg]; exact (below_size (by repeat (first | (with_reducible first | exact HB.out | apply below_alloc | apply pw_below_drewN | apply below_drew1 | refine below_set ?_ GE324.out) | exact HB.out))) : w.heap.size ≤ gb333)); have n12_ := Aside0.mk ((by rw [hg]; exact (below_size (by repeat (first | (with_reducible first | exact HB.out | apply below_alloc | apply pw_below_drewN | apply below_drew1 | refine below_set ?_ GE324.out) | exact HB.out))) : w.heap.size ≤ gb333)); have n13_ := Aside0.mk ((by rw [hg]; exact Nat.ne_of_lt (blk_lt (g := gb324) (o := .cells #[.string t316, .slice Ao29 t317.length co29, .slice Ao30 t320.length co30] 29 (0, 0)) (by (with_reducible repeat (first | refine blk_drewN ?_ _ | refine blk_drew ?_ | refine blk_alloc ?_ _)); exact BK324.out)) : gb324 ≠ gb333)); have n14_ := Aside0.mk ((by rw [hg]; exact Nat.ne_of_gt (blk_lt (g := gb324) (o := .cells #[.string t316, .slice Ao29 t317.length co29, .slice Ao30 t320.length co30] 29 (0, 0)) (by (with_reducible repeat (first | refine blk_drewN ?_ _ | refine blk_drew ?_ | refine blk_alloc ?_ _)); exact BK324.out)) : gb333 ≠ gb324)); clear HO_0; clear HO304; clear HO312; clear HO315; clear HO319; clear HO322; clear HO328; clear HO331; clear BK324; clear HB; have HO_0 := n0_; have HO304 := n1_; have HO312 := n2_; have HO315 := n3_; have HO319 := n4_; have HO322 := n5_; have HO328 := n6_; have HO331 := n7_; have BK324 := n8_; have HB := n9_; have BK333 := n10_; have GW333 := n11_; have GE333 := n12_; have NB324_333 := n13_; have NB333_324 := n14_; clear n0_ n1_ n2_ n3_ n4_ n5_ n6_ n7_ n8_ n9_ n10_ n11_ n12_ n13_ n14_; clear hb hbox hg; have hnb34 := NB333_324.out; have hnc34 := NB324_333.out; have hcz35_0 : w33.cell? ⟨gb333, 0, none⟩ = some (.string (⟨#[]⟩ : ByteArray)) := (blk_cell BK333.out 0).trans rfl; have hcz35_1 : w33.cell? ⟨gb333, 1, none⟩ = some (.slice none 0 0) := (blk_cell BK333.out 1).trans rfl; have hcz35_2 : w33.cell? ⟨gb333, 2, none⟩ = some (.slice none 0 0) := (blk_cell BK333.out 2).trans rfl; have hfz35_0 := blk_frozen BK333.out 0; have hfz35_1 := blk_frozen BK333.out 1; have hfz35_2 := blk_frozen BK333.out 2; obtain ⟨Ao36, co36, eo36⟩ := Kd.R_slice HO328.out; subst eo36; obtain ⟨Ao37, co37, eo37⟩ := Kd.R_slice HO331.out; subst eo37))
                      repeat (go_quiet (first | ((with_reducible refine gate_builtin (b := .append) (xs := #[.tmp 32, .tmp 35]) rfl ?_); (try (refine gate_guard (by rfl) ?_; dsimp only)); at_builtin; refine Kd.N_append_rows k40 (w0 := w) w.heap.size rfl (.tmp 32) (.tmp 35) 22 40 (.agg #[(.string ⟨#[]⟩), (.slice none 0 0), (.slice none 0 0), (.slice none 0 0)]) 88 rfl Try.underlying22 info40 rfl (by decide) (by omega) (.slice none 0 0) ([] : List (S40)) y300 _ _ _ (fun k_ => (P0_ k_ ∨ w.heap.size ≤ k_)) (fun k_ => ((fun k_ => (P0_ k_ ∨ w.heap.size ≤ k_))) k_ ∧ some k_ ≠ (.slice none 0 0 : Value).ownBlock) rfl rfl ?aO ?aR (fun _ hk => hk) ?aF ?aB ?aS ?aL ?_; (case aR => exact (by skip; exact Kd.V_F (Kd.V_mono (ok' := (fun k_ => ((fun k_ => (P0_ k_ ∨ w.heap.size ≤ k_))) k_ ∧ some k_ ≠ (.slice none 0 0 : Value).ownBlock)) (HO304.out) (fun k_ hk => ⟨hk, (by simp [Value.ownBlock])⟩)))); (case aB => exact (by repeat (first | (with_reducible first | exact HB.out | apply below_alloc | apply pw_below_drewN | apply below_drew1) | exact HB.out))); (case aF => exact (fun k_ hk => (.inr (Nat.le_trans (below_size (by repeat (first | (with_reducible first | exact HB.out | apply below_alloc | apply pw_below_drewN | apply below_drew1) | exact HB.out))) hk)))); (case aO => exact ((Kd.N_nil _ _ _ _ (fun k_ => (P0_ k_ ∨ w.heap.size ≤ k_))))); (case aS => exact (below_size (by repeat (first | (with_reducible first | exact HB.out | apply below_alloc | apply pw_below_drewN | apply below_drew1) | exact HB.out)))); (case aL => have := LMc15.out; omega); intro v306 w23 ho hb hg hat; rw [← Ny305.out] at ho; have n0_ := Aside0.mk (Kd.V_afterv (Kd.V_apart_nil (by (with_reducible repeat (first | apply Kd.V_alloc | apply Kd.V_drewN | apply Kd.V_drew)); exact HO_0.out)) hg hat); have n1_ := Aside0.mk (Kd.V_afterv (Kd.V_apart_nil (by (with_reducible repeat (first | apply Kd.V_alloc | apply Kd.V_drewN | apply Kd.V_drew)); exact HO304.out)) hg hat); have n2_ := Aside0.mk (hb); have n3_ := Aside0.mk (ho); clear HO_0; clear HO304; clear HB; have HO_0 := n0_; have HO304 := n1_; have HB := n2_; have HO307 := n3_; clear n0_ n1_ n2_ n3_; clear ho hb hg hat; have q24 : ((ji12) : Int) ≤ ((l0.length : Int) : Int) := of_decide_eq_true (by first | (with_reducible assumption) | assumption); obtain ⟨i024, hi024, _, hsz24, _⟩ := info_parts info40; have hroom24 : l0.length ≤ c0 := (Kd.V_reads' HO_0.out).2.1; have hC24 : Kd.F k40 _ _ A0 l0.length l0 := (Kd.V_at (base := w.heap.size) HO_0.out).2.2; have hcut24 := cut_to (P := Try.prog) 22 40 .i64 Try.underlying22 hi024 A0 l0.length c0 (ji12) (of_decide_eq_true (by first | (with_reducible assumption) | assumption)) q24 hroom24; have hr24 := Kd.F_take (m := ((ji12) : Int).toNat) hC24 (by omega); have hy24 : y308.length = ((ji12) : Int).toNat := (by rw [Ny308.out, List.length_take]; omega); rw [← Ny308.out] at hr24; rw [← hy24] at hcut24; have HO312 := Aside0.mk (show Kd.V k40 40 _ w.heap.size _ (.slice A0 y308.length c0) y308 from Kd.V_mk (by omega) hr24); have HC312 := Aside0.mk (show y308.length ≤ c0 from by omega); clear hr24 hC24 hroom24 hi024 hsz24; have KY24 := Aside0.mk hy24; clear hy24; replace q24 := eq_true q24) | ((with_reducible refine gate_builtin (b := .append) (xs := #[.tmp 37, .tmp 40]) rfl ?_); (try (refine gate_guard (by rfl) ?_; dsimp only)); at_builtin; refine Kd.N_append_rows k40 (w0 := w) w.heap.size rfl (.tmp 37) (.tmp 40) 22 40 (.agg #[(.string ⟨#[]⟩), (.slice none 0 0), (.slice none 0 0), (.slice none 0 0)]) 88 rfl Try.underlying22 info40 rfl (by decide) (by omega) v306 y305 y308 _ _ _ (fun k_ => (P0_ k_ ∨ w.heap.size ≤ k_)) (fun k_ => ((fun k_ => (P0_ k_ ∨ w.heap.size ≤ k_))) k_ ∧ some k_ ≠ (v306 : Value).ownBlock) rfl rfl ?aO ?aR (fun _ hk => hk) ?aF ?aB ?aS ?aL ?_; (case aR => exact (by skip; exact Kd.V_F (Kd.V_mono (ok' := (fun k_ => ((fun k_ => (P0_ k_ ∨ w.heap.size ≤ k_))) k_ ∧ some k_ ≠ (v306 : Value).ownBlock)) (HO312.out) (fun k_ hk => ⟨hk.1, hk.2⟩)))); (case aB => exact (by repeat (first | (with_reducible first | exact HB.out | apply below_alloc | apply pw_below_drewN | apply below_drew1) | exact HB.out))); (case aF => exact (fun k_ hk => (.inr (Nat.le_trans (below_size (by repeat (first | (with_reducible first | exact HB.out | apply below_alloc | apply pw_below_drewN | apply below_drew1) | exact HB.out))) hk)))); (case aO => exact (by (with_reducible repeat (first | apply Kd.N_alloc | apply Kd.N_drewN | apply Kd.N_drew)); exact HO307.out)); (case aS => exact (below_size (by repeat (first | (with_reducible first | exact HB.out | apply below_alloc | apply pw_below_drewN | apply below_drew1) | exact HB.out)))); (case aL => have := LMc18.out; omega); intro v314 w25 ho hb hg hat; rw [← Ny313.out] at ho; have n0_ := Aside0.mk (Kd.V_afterv (ok := (fun k_ => (P0_ k_ ∨ w.heap.size ≤ k_))) (by (with_reducible repeat (first | apply Kd.V_alloc | apply Kd.V_drewN | apply Kd.V_drew)); exact HO_0.out) hg hat); have n1_ := Aside0.mk (Kd.V_afterv (ok := (fun k_ => (P0_ k_ ∨ w.heap.size ≤ k_))) (by (with_reducible repeat (first | apply Kd.V_alloc | apply Kd.V_drewN | apply Kd.V_drew)); exact HO304.out) hg hat); have n2_ := Aside0.mk (Kd.V_afterv (ok := (fun k_ => (P0_ k_ ∨ w.heap.size ≤ k_))) (by (with_reducible repeat (first | apply Kd.V_alloc | apply Kd.V_drewN | apply Kd.V_drew)); exact HO312.out) hg hat); have n3_ := Aside0.mk (hb); have n4_ := Aside0.mk (ho); clear HO_0; clear HO304; clear HO312; clear HB; clear HO307; have HO_0 := n0_; have HO304 := n1_; have HO312 := n2_; have HB := n3_; have HO315 := n4_; clear n0_ n1_ n2_ n3_ n4_; clear ho hb hg hat) | (go_at_call 12; (with_reducible refine (link_Link.calls _ _ l0 t316 t317 t320 t323 _ ?side1 ?side2 A19.out).mono ?_); (case side1 => repeat (first | exact (Kd.V_reads' HO_0.out).2.2 | (with_reducible refine Kd.C_alloc ?_ _) | (with_reducible refine Kd.C_drewN ?_ _) | (with_reducible refine Kd.C_drew ?_))); (case side2 => exact (Kd.V_reads' HO_0.out).2.1); rintro e w26 ⟨v318, v321, rfl, ho0, ho1, hb⟩; have n0_ := Aside0.mk (Kd.V_mono (Kd.V_told (Kd.V_told (Kd.V_old (by (with_reducible repeat (first | apply Kd.V_alloc | apply Kd.V_drewN | apply Kd.V_drew)); exact HO_0.out) hb) (Kd.R_base ho0)) (Kd.R_base ho1)) (fun _ h_ => h_.1)); have n1_ := Aside0.mk (Kd.V_mono (Kd.V_told (Kd.V_told (Kd.V_old (by (with_reducible repeat (first | apply Kd.V_alloc | apply Kd.V_drewN | apply Kd.V_drew)); exact HO304.out) hb) (Kd.R_base ho0)) (Kd.R_base ho1)) (fun _ h_ => h_.1)); have n2_ := Aside0.mk (Kd.V_mono (Kd.V_told (Kd.V_told (Kd.V_old (by (with_reducible repeat (first | apply Kd.V_alloc | apply Kd.V_drewN | apply Kd.V_drew)); exact HO312.out) hb) (Kd.R_base ho0)) (Kd.R_base ho1)) (fun _ h_ => h_.1)); have n3_ := Aside0.mk (Kd.N_mono (Kd.N_told (Kd.N_told (Kd.N_old (by (with_reducible repeat (first | apply Kd.N_alloc | apply Kd.N_drewN | apply Kd.N_drew)); exact HO315.out) hb) (Kd.R_base ho0)) (Kd.R_base ho1)) (fun _ h_ => h_.1)); have n4_ := Aside0.mk (Kd.R_lower (Kd.R_newM (M := fun k_ => (w.heap.size ≤ k_)) ho0 (below_size (by repeat (first | (with_reducible first | exact HB.out | apply below_alloc | apply pw_below_drewN | apply below_drew1) | exact HB.out))) (fun k_ h_ => h_)) (below_size (by repeat (first | (with_reducible first | exact HB.out | apply below_alloc | apply pw_below_drewN | apply below_drew1) | exact HB.out)))); have n5_ := Aside0.mk (Kd.R_lower (Kd.R_newM (M := fun k_ => (w.heap.size ≤ k_)) ho1 (below_size (by repeat (first | (with_reducible first | exact HB.out | apply below_alloc | apply pw_below_drewN | apply below_drew1) | exact HB.out))) (fun k_ h_ => h_)) (below_size (by repeat (first | (with_reducible first | exact HB.out | apply below_alloc | apply pw_below_drewN | apply below_drew1) | exact HB.out)))); have n6_ := Aside0.mk (below_step (by repeat (first | (with_reducible first | exact HB.out | apply below_alloc | apply pw_below_drewN | apply below_drew1) | exact HB.out)) hb); clear HO_0; clear HO304; clear HO312; clear HO315; clear HB; have HO_0 := n0_; have HO304 := n1_; have HO312 := n2_; have HO315 := n3_; have HO319 := n4_; have HO322 := n5_; have HB := n6_; clear n0_ n1_ n2_ n3_ n4_ n5_ n6_; (try clear hb); (try clear hb2); (try clear hk); (try clear hi); (try clear ho0); (try clear ho1)) | ((with_reducible refine gate_dst (N := 7) rfl ?_); (try (refine gate_guard (by rfl) ?_; dsimp only)); refine box_event ?hg (N := 7) ?hd (cs := #[.string (⟨#[]⟩ : ByteArray), .slice none 0 0, .slice none 0 0]) (t := 29) ?hr ?_; (case hd => rfl); (case hg => rfl); (case hr => first | (go_simp; done) | (go_simp; rfl)); intro gb324 hg w27 hbox hb; have n0_ := Aside0.mk (Kd.V_below (Kd.V_elderB (by (with_reducible repeat (first | apply Kd.V_alloc | apply Kd.V_drewN | apply Kd.V_drew)); exact HO_0.out) gb324 (Nat.le_of_eq hg.symm)) hb); have n1_ := Aside0.mk (Kd.V_below (Kd.V_elderB (by (with_reducible repeat (first | apply Kd.V_alloc | apply Kd.V_drewN | apply Kd.V_drew)); exact HO304.out) gb324 (Nat.le_of_eq hg.symm)) hb); have n2_ := Aside0.mk (Kd.V_below (Kd.V_elderB (by (with_reducible repeat (first | apply Kd.V_alloc | apply Kd.V_drewN | apply Kd.V_drew)); exact HO312.out) gb324 (Nat.le_of_eq hg.symm)) hb); have n3_ := Aside0.mk (Kd.N_below (Kd.N_elderB (by (with_reducible repeat (first | apply Kd.N_alloc | apply Kd.N_drewN | apply Kd.N_drew)); exact HO315.out) gb324 (Nat.le_of_eq hg.symm)) hb); have n4_ := Aside0.mk (Kd.R_below (by (with_reducible repeat (first | apply Kd.R_alloc | apply Kd.R_drewN | apply Kd.R_drew)); exact HO319.out) hb); have n5_ := Aside0.mk (Kd.R_below (by (with_reducible repeat (first | apply Kd.R_alloc | apply Kd.R_drewN | apply Kd.R_drew)); exact HO322.out) hb); have n6_ := Aside0.mk (below_step (by repeat (first | (with_reducible first | exact HB.out | apply below_alloc | apply pw_below_drewN | apply below_drew1) | exact HB.out)) hb); have n7_ := Aside0.mk (hbox); have n8_ := Aside0.mk ((by rw [hg]; exact (below_size (by repeat (first | (with_reducible first | exact HB.out | apply below_alloc | apply pw_below_drewN | apply below_drew1) | exact HB.out))) : w.heap.size ≤ gb324)); have n9_ := Aside0.mk ((by rw [hg]; exact (below_size (by repeat (first | (with_reducible first | exact HB.out | apply below_alloc | apply pw_below_drewN | apply below_drew1) | exact HB.out))) : w.heap.size ≤ gb324)); clear HO_0; clear HO304; clear HO312; clear HO315; clear HO319; clear HO322; clear HB; have HO_0 := n0_; have HO304 := n1_; have HO312 := n2_; have HO315 := n3_; have HO319 := n4_; have HO322 := n5_; have HB := n6_; have BK324 := n7_; have GW324 := n8_; have GE324 := n9_; clear n0_ n1_ n2_ n3_ n4_ n5_ n6_ n7_ n8_ n9_; clear hb hbox hg; have hcz28_0 : w27.cell? ⟨gb324, 0, none⟩ = some (.string (⟨#[]⟩ : ByteArray)) := (blk_cell BK324.out 0).trans rfl; have hcz28_1 : w27.cell? ⟨gb324, 1, none⟩ = some (.slice none 0 0) := (blk_cell BK324.out 1).trans rfl; have hcz28_2 : w27.cell? ⟨gb324, 2, none⟩ = some (.slice none 0 0) := (blk_cell BK324.out 2).trans rfl; have hfz28_0 := blk_frozen BK324.out 0; have hfz28_1 := blk_frozen BK324.out 1; have hfz28_2 := blk_frozen BK324.out 2; obtain ⟨Ao29, co29, eo29⟩ := Kd.R_slice HO319.out; subst eo29; obtain ⟨Ao30, co30, eo30⟩ := Kd.R_slice HO322.out; subst eo30; obtain ⟨Ao31, co31, eo31⟩ := Kd.N_slice HO315.out; subst eo31) | (go_at_call 12; (with_reducible refine (link_Link.calls _ _ y313 t325 t326 t329 t332 _ ?side1 ?side2 A20.out).mono ?_); (case side1 => refine (Kd.N_reads' (e := 40) (base := w.heap.size) (ok := fun k_ => ((((P0_ k_ ∨ w.heap.size ≤ k_) ∧ some k_ ≠ (.slice Ao29 t317.length co29 : Value).ownBlock) ∧ some k_ ≠ (.slice Ao30 t320.length co30 : Value).ownBlock) ∧ k_ ≠ gb324)) (n := y313.length) (c := co31) ?_).2.2; exact (by (with_reducible repeat (first | apply Kd.N_alloc | apply Kd.N_drewN | apply Kd.N_drew)); exact (Kd.N_mono (Kd.N_far (p := ⟨gb324, 2, none⟩) (Kd.N_far (p := ⟨gb324, 1, none⟩) (Kd.N_far (p := ⟨gb324, 0, none⟩) (Kd.N_mono HO315.out (fun k_ hk => (⟨hk, hk.2⟩ : _ ∧ k_ ≠ gb324))) (fun _ hk => hk.2) (.string t316)) (fun _ hk => hk.2) (.slice Ao29 t317.length co29)) (fun _ hk => hk.2) (.slice Ao30 t320.length co30)) (fun _ h_ => h_.1)))); (case side2 => exact (Kd.N_reads' HO315.out).2.1); rintro e w32 ⟨v327, v330, rfl, ho0, ho1, hb⟩; have n0_ := Aside0.mk (Kd.V_mono (Kd.V_told (Kd.V_told (Kd.V_old (by (with_reducible repeat (first | apply Kd.V_alloc | apply Kd.V_drewN | apply Kd.V_drew)); exact (Kd.V_mono (Kd.V_far (p := ⟨gb324, 2, none⟩) (Kd.V_far (p := ⟨gb324, 1, none⟩) (Kd.V_far (p := ⟨gb324, 0, none⟩) (Kd.V_mono HO_0.out (fun k_ hk => (⟨hk, hk.2⟩ : _ ∧ k_ ≠ gb324))) (fun _ hk => hk.2) (.string t316)) (fun _ hk => hk.2) (.slice Ao29 t317.length co29)) (fun _ hk => hk.2) (.slice Ao30 t320.length co30)) (fun _ h_ => h_.1))) hb) (Kd.R_base ho0)) (Kd.R_base ho1)) (fun _ h_ => h_.1)); have n1_ := Aside0.mk (Kd.V_mono (Kd.V_told (Kd.V_told (Kd.V_old (by (with_reducible repeat (first | apply Kd.V_alloc | apply Kd.V_drewN | apply Kd.V_drew)); exact (Kd.V_mono (Kd.V_far (p := ⟨gb324, 2, none⟩) (Kd.V_far (p := ⟨gb324, 1, none⟩) (Kd.V_far (p := ⟨gb324, 0, none⟩) (Kd.V_mono HO304.out (fun k_ hk => (⟨hk, hk.2⟩ : _ ∧ k_ ≠ gb324))) (fun _ hk => hk.2) (.string t316)) (fun _ hk => hk.2) (.slice Ao29 t317.length co29)) (fun _ hk => hk.2) (.slice Ao30 t320.length co30)) (fun _ h_ => h_.1))) hb) (Kd.R_base ho0)) (Kd.R_base ho1)) (fun _ h_ => h_.1)); have n2_ := Aside0.mk (Kd.V_mono (Kd.V_told (Kd.V_told (Kd.V_old (by (with_reducible repeat (first | apply Kd.V_alloc | apply Kd.V_drewN | apply Kd.V_drew)); exact (Kd.V_mono (Kd.V_far (p := ⟨gb324, 2, none⟩) (Kd.V_far (p := ⟨gb324, 1, none⟩) (Kd.V_far (p := ⟨gb324, 0, none⟩) (Kd.V_mono HO312.out (fun k_ hk => (⟨hk, hk.2⟩ : _ ∧ k_ ≠ gb324))) (fun _ hk => hk.2) (.string t316)) (fun _ hk => hk.2) (.slice Ao29 t317.length co29)) (fun _ hk => hk.2) (.slice Ao30 t320.length co30)) (fun _ h_ => h_.1))) hb) (Kd.R_base ho0)) (Kd.R_base ho1)) (fun _ h_ => h_.1)); have n3_ := Aside0.mk (Kd.N_mono (Kd.N_told (Kd.N_told (Kd.N_old (by (with_reducible repeat (first | apply Kd.N_alloc | apply Kd.N_drewN | apply Kd.N_drew)); exact (Kd.N_mono (Kd.N_far (p := ⟨gb324, 2, none⟩) (Kd.N_far (p := ⟨gb324, 1, none⟩) (Kd.N_far (p := ⟨gb324, 0, none⟩) (Kd.N_mono HO315.out (fun k_ hk => (⟨hk, hk.2⟩ : _ ∧ k_ ≠ gb324))) (fun _ hk => hk.2) (.string t316)) (fun _ hk => hk.2) (.slice Ao29 t317.length co29)) (fun _ hk => hk.2) (.slice Ao30 t320.length co30)) (fun _ h_ => h_.1))) hb) (Kd.R_base ho0)) (Kd.R_base ho1)) (fun _ h_ => h_.1)); have n4_ := Aside0.mk (Kd.R_elder' (by (with_reducible repeat (first | apply Kd.R_alloc | apply Kd.R_drewN | apply Kd.R_drew)); exact (Kd.R_mono (Kd.R_far (p := ⟨gb324, 2, none⟩) (Kd.R_far (p := ⟨gb324, 1, none⟩) (Kd.R_far (p := ⟨gb324, 0, none⟩) (Kd.R_types HO319.out BK324.out (by decide)) (fun _ hk => hk.2) (.string t316)) (fun _ hk => hk.2) (.slice Ao29 t317.length co29)) (fun _ hk => hk.2) (.slice Ao30 t320.length co30)) (fun _ h_ => h_.1))) (Kd.R_base ho0) hb); have n5_ := Aside0.mk (Kd.R_elder' (by (with_reducible repeat (first | apply Kd.R_alloc | apply Kd.R_drewN | apply Kd.R_drew)); exact (Kd.R_mono (Kd.R_far (p := ⟨gb324, 2, none⟩) (Kd.R_far (p := ⟨gb324, 1, none⟩) (Kd.R_far (p := ⟨gb324, 0, none⟩) (Kd.R_types HO322.out BK324.out (by decide)) (fun _ hk => hk.2) (.string t316)) (fun _ hk => hk.2) (.slice Ao29 t317.length co29)) (fun _ hk => hk.2) (.slice Ao30 t320.length co30)) (fun _ h_ => h_.1))) (Kd.R_base ho1) hb); have n6_ := Aside0.mk (Kd.R_lower (Kd.R_new' (Kd.R_newM (M := fun k_ => (w.heap.size ≤ k_)) ho0 (below_size (by repeat (first | (with_reducible first | exact HB.out | apply below_alloc | apply pw_below_drewN | apply below_drew1 | refine below_set ?_ GE324.out) | exact HB.out))) (fun k_ h_ => h_)) (Kd.R_lt (by (with_reducible repeat (first | apply Kd.R_alloc | apply Kd.R_drewN | apply Kd.R_drew)); exact (Kd.R_mono (Kd.R_far (p := ⟨gb324, 2, none⟩) (Kd.R_far (p := ⟨gb324, 1, none⟩) (Kd.R_far (p := ⟨gb324, 0, none⟩) (Kd.R_types HO319.out BK324.out (by decide)) (fun _ hk => hk.2) (.string t316)) (fun _ hk => hk.2) (.slice Ao29 t317.length co29)) (fun _ hk => hk.2) (.slice Ao30 t320.length co30)) (fun _ h_ => h_.1))))) (below_size (by repeat (first | (with_reducible first | exact HB.out | apply below_alloc | apply pw_below_drewN | apply below_drew1 | refine below_set ?_ GE324.out) | exact HB.out)))); have n7_ := Aside0.mk (Kd.R_lower (Kd.R_new' (Kd.R_newM (M := fun k_ => (w.heap.size ≤ k_)) ho1 (below_size (by repeat (first | (with_reducible first | exact HB.out | apply below_alloc | apply pw_below_drewN | apply below_drew1 | refine below_set ?_ GE324.out) | exact HB.out))) (fun k_ h_ => h_)) (Kd.R_lt (by (with_reducible repeat (first | apply Kd.R_alloc | apply Kd.R_drewN | apply Kd.R_drew)); exact (Kd.R_mono (Kd.R_far (p := ⟨gb324, 2, none⟩) (Kd.R_far (p := ⟨gb324, 1, none⟩) (Kd.R_far (p := ⟨gb324, 0, none⟩) (Kd.R_types HO322.out BK324.out (by decide)) (fun _ hk => hk.2) (.string t316)) (fun _ hk => hk.2) (.slice Ao29 t317.length co29)) (fun _ hk => hk.2) (.slice Ao30 t320.length co30)) (fun _ h_ => h_.1))))) (below_size (by repeat (first | (with_reducible first | exact HB.out | apply below_alloc | apply pw_below_drewN | apply below_drew1 | refine below_set ?_ GE324.out) | exact HB.out)))); have n8_ := Aside0.mk (blk_below (g := gb324) (o := .cells #[.string t316, .slice Ao29 t317.length co29, .slice Ao30 t320.length co30] 29 (0, 0)) (by (with_reducible repeat (first | refine blk_drewN ?_ _ | refine blk_drew ?_ | refine blk_alloc ?_ _)); refine blk_put (cs := #[.string t316, .slice Ao29 t317.length co29, .slice none 0 0]) ?_ 2 _ rfl; (with_reducible repeat (first | refine blk_drewN ?_ _ | refine blk_drew ?_ | refine blk_alloc ?_ _)); refine blk_put (cs := #[.string t316, .slice none 0 0, .slice none 0 0]) ?_ 1 _ rfl; (with_reducible repeat (first | refine blk_drewN ?_ _ | refine blk_drew ?_ | refine blk_alloc ?_ _)); refine blk_put (cs := #[.string (⟨#[]⟩ : ByteArray), .slice none 0 0, .slice none 0 0]) ?_ 0 _ rfl; (with_reducible repeat (first | refine blk_drewN ?_ _ | refine blk_drew ?_ | refine blk_alloc ?_ _)); exact BK324.out) hb); have n9_ := Aside0.mk (below_step (by repeat (first | (with_reducible first | exact HB.out | apply below_alloc | apply pw_below_drewN | apply below_drew1 | refine below_set ?_ GE324.out) | exact HB.out)) hb); clear HO_0; clear HO304; clear HO312; clear HO315; clear HO319; clear HO322; clear BK324; clear HB; have HO_0 := n0_; have HO304 := n1_; have HO312 := n2_; have HO315 := n3_; have HO319 := n4_; have HO322 := n5_; have HO328 := n6_; have HO331 := n7_; have BK324 := n8_; have HB := n9_; clear n0_ n1_ n2_ n3_ n4_ n5_ n6_ n7_ n8_ n9_; (try clear hb); (try clear hb2); (try clear hk); (try clear hi); (try clear ho0); (try clear ho1)) | ((with_reducible refine gate_dst (N := 9) rfl ?_); (try (refine gate_guard (by rfl) ?_; dsimp only)); refine box_event ?hg (N := 9) ?hd (cs := #[.string (⟨#[]⟩ : ByteArray), .slice none 0 0, .slice none 0 0]) (t := 29) ?hr ?_; (case hd => rfl); (case hg => rfl); (case hr => first | (go_simp; done) | (go_simp; rfl)); intro gb333 hg w33 hbox hb; have n0_ := Aside0.mk (Kd.V_below (Kd.V_elderB (by (with_reducible repeat (first | apply Kd.V_alloc | apply Kd.V_drewN | apply Kd.V_drew)); exact HO_0.out) gb333 (Nat.le_of_eq hg.symm)) hb); have n1_ := Aside0.mk (Kd.V_below (Kd.V_elderB (by (with_reducible repeat (first | apply Kd.V_alloc | apply Kd.V_drewN | apply Kd.V_drew)); exact HO304.out) gb333 (Nat.le_of_eq hg.symm)) hb); have n2_ := Aside0.mk (Kd.V_below (Kd.V_elderB (by (with_reducible repeat (first | apply Kd.V_alloc | apply Kd.V_drewN | apply Kd.V_drew)); exact HO312.out) gb333 (Nat.le_of_eq hg.symm)) hb); have n3_ := Aside0.mk (Kd.N_below (Kd.N_elderB (by (with_reducible repeat (first | apply Kd.N_alloc | apply Kd.N_drewN | apply Kd.N_drew)); exact HO315.out) gb333 (Nat.le_of_eq hg.symm)) hb); have n4_ := Aside0.mk (Kd.R_below (by (with_reducible repeat (first | apply Kd.R_alloc | apply Kd.R_drewN | apply Kd.R_drew)); exact HO319.out) hb); have n5_ := Aside0.mk (Kd.R_below (by (with_reducible repeat (first | apply Kd.R_alloc | apply Kd.R_drewN | apply Kd.R_drew)); exact HO322.out) hb); have n6_ := Aside0.mk (Kd.R_below (by (with_reducible repeat (first | apply Kd.R_alloc | apply Kd.R_drewN | apply Kd.R_drew)); exact HO328.out) hb); have n7_ := Aside0.mk (Kd.R_below (by (with_reducible repeat (first | apply Kd.R_alloc | apply Kd.R_drewN | apply Kd.R_drew)); exact HO331.out) hb); have n8_ := Aside0.mk (blk_below (g := gb324) (o := .cells #[.string t316, .slice Ao29 t317.length co29, .slice Ao30 t320.length co30] 29 (0, 0)) (by (with_reducible repeat (first | refine blk_drewN ?_ _ | refine blk_drew ?_ | refine blk_alloc ?_ _)); exact BK324.out) hb); have n9_ := Aside0.mk (below_step (by repeat (first | (with_reducible first | exact HB.out | apply below_alloc | apply pw_below_drewN | apply below_drew1 | refine below_set ?_ GE324.out) | exact HB.out)) hb); have n10_ := Aside0.mk (hbox); have n11_ := Aside0.mk ((by rw [hg]; exact (below_size (by repeat (first | (with_reducible first | exact HB.out | apply below_alloc | apply pw_below_drewN | apply below_drew1 | refine below_set ?_ GE324.out) | exact HB.out))) : w.heap.size ≤ gb333)); have n12_ := Aside0.mk ((by rw [hg]; exact (below_size (by repeat (first | (with_reducible first | exact HB.out | apply below_alloc | apply pw_below_drewN | apply below_drew1 | refine below_set ?_ GE324.out) | exact HB.out))) : w.heap.size ≤ gb333)); have n13_ := Aside0.mk ((by rw [hg]; exact Nat.ne_of_lt (blk_lt (g := gb324) (o := .cells #[.string t316, .slice Ao29 t317.length co29, .slice Ao30 t320.length co30] 29 (0, 0)) (by (with_reducible repeat (first | refine blk_drewN ?_ _ | refine blk_drew ?_ | refine blk_alloc ?_ _)); exact BK324.out)) : gb324 ≠ gb333)); have n14_ := Aside0.mk ((by rw [hg]; exact Nat.ne_of_gt (blk_lt (g := gb324) (o := .cells #[.string t316, .slice Ao29 t317.length co29, .slice Ao30 t320.length co30] 29 (0, 0)) (by (with_reducible repeat (first | refine blk_drewN ?_ _ | refine blk_drew ?_ | refine blk_alloc ?_ _)); exact BK324.out)) : gb333 ≠ gb324)); clear HO_0; clear HO304; clear HO312; clear HO315; clear HO319; clear HO322; clear HO328; clear HO331; clear BK324; clear HB; have HO_0 := n0_; have HO304 := n1_; have HO312 := n2_; have HO315 := n3_; have HO319 := n4_; have HO322 := n5_; have HO328 := n6_; have HO331 := n7_; have BK324 := n8_; have HB := n9_; have BK333 := n10_; have GW333 := n11_; have GE333 := n12_; have NB324_333 := n13_; have NB333_324 := n14_; clear n0_ n1_ n2_ n3_ n4_ n5_ n6_ n7_ n8_ n9_ n10_ n11_ n12_ n13_ n14_; clear hb hbox hg; have hnb34 := NB333_324.out; have hnc34 := NB324_333.out; have hcz35_0 : w33.cell? ⟨gb333, 0, none⟩ = some (.string (⟨#[]⟩ : ByteArray)) := (blk_cell BK333.out 0).trans rfl; have hcz35_1 : w33.cell? ⟨gb333, 1, none⟩ = some (.slice none 0 0) := (blk_cell BK333.out 1).trans rfl; have hcz35_2 : w33.cell? ⟨gb333, 2, none⟩ = some (.slice none 0 0) := (blk_cell BK333.out 2).trans rfl; have hfz35_0 := blk_frozen BK333.out 0; have hfz35_1 := blk_frozen BK333.out 1; have hfz35_2 := blk_frozen BK333.out 2; obtain ⟨Ao36, co36, eo36⟩ := Kd.R_slice HO328.out; subst eo36; obtain ⟨Ao37, co37, eo37⟩ := Kd.R_slice HO331.out; subst eo37)); go_upto_region 11 with (first | ((with_reducible refine gate_builtin (b := .append) (xs := #[.tmp 32, .tmp 35]) rfl ?_); (try (refine gate_guard (by rfl) ?_; dsimp only)); at_builtin; refine Kd.N_append_rows k40 (w0 := w) w.heap.size rfl (.tmp 32) (.tmp 35) 22 40 (.agg #[(.string ⟨#[]⟩), (.slice none 0 0), (.slice none 0 0), (.slice none 0 0)]) 88 rfl Try.underlying22 info40 rfl (by decide) (by omega) (.slice none 0 0) ([] : List (S40)) y300 _ _ _ (fun k_ => (P0_ k_ ∨ w.heap.size ≤ k_)) (fun k_ => ((fun k_ => (P0_ k_ ∨ w.heap.size ≤ k_))) k_ ∧ some k_ ≠ (.slice none 0 0 : Value).ownBlock) rfl rfl ?aO ?aR (fun _ hk => hk) ?aF ?aB ?aS ?aL ?_; (case aR => exact (by skip; exact Kd.V_F (Kd.V_mono (ok' := (fun k_ => ((fun k_ => (P0_ k_ ∨ w.heap.size ≤ k_))) k_ ∧ some k_ ≠ (.slice none 0 0 : Value).ownBlock)) (HO304.out) (fun k_ hk => ⟨hk, (by simp [Value.ownBlock])⟩)))); (case aB => exact (by repeat (first | (with_reducible first | exact HB.out | apply below_alloc | apply pw_below_drewN | apply below_drew1) | exact HB.out))); (case aF => exact (fun k_ hk => (.inr (Nat.le_trans (below_size (by repeat (first | (with_reducible first | exact HB.out | apply below_alloc | apply pw_below_drewN | apply below_drew1) | exact HB.out))) hk)))); (case aO => exact ((Kd.N_nil _ _ _ _ (fun k_ => (P0_ k_ ∨ w.heap.size ≤ k_))))); (case aS => exact (below_size (by repeat (first | (with_reducible first | exact HB.out | apply below_alloc | apply pw_below_drewN | apply below_drew1) | exact HB.out)))); (case aL => have := LMc15.out; omega); intro v306 w23 ho hb hg hat; rw [← Ny305.out] at ho; have n0_ := Aside0.mk (Kd.V_afterv (Kd.V_apart_nil (by (with_reducible repeat (first | apply Kd.V_alloc | apply Kd.V_drewN | apply Kd.V_drew)); exact HO_0.out)) hg hat); have n1_ := Aside0.mk (Kd.V_afterv (Kd.V_apart_nil (by (with_reducible repeat (first | apply Kd.V_alloc | apply Kd.V_drewN | apply Kd.V_drew)); exact HO304.out)) hg hat); have n2_ := Aside0.mk (hb); have n3_ := Aside0.mk (ho); clear HO_0; clear HO304; clear HB; have HO_0 := n0_; have HO304 := n1_; have HB := n2_; have HO307 := n3_; clear n0_ n1_ n2_ n3_; clear ho hb hg hat; have q24 : ((ji12) : Int) ≤ ((l0.length : Int) : Int) := of_decide_eq_true (by first | (with_reducible assumption) | assumption); obtain ⟨i024, hi024, _, hsz24, _⟩ := info_parts info40; have hroom24 : l0.length ≤ c0 := (Kd.V_reads' HO_0.out).2.1; have hC24 : Kd.F k40 _ _ A0 l0.length l0 := (Kd.V_at (base := w.heap.size) HO_0.out).2.2; have hcut24 := cut_to (P := Try.prog) 22 40 .i64 Try.underlying22 hi024 A0 l0.length c0 (ji12) (of_decide_eq_true (by first | (with_reducible assumption) | assumption)) q24 hroom24; have hr24 := Kd.F_take (m := ((ji12) : Int).toNat) hC24 (by omega); have hy24 : y308.length = ((ji12) : Int).toNat := (by rw [Ny308.out, List.length_take]; omega); rw [← Ny308.out] at hr24; rw [← hy24] at hcut24; have HO312 := Aside0.mk (show Kd.V k40 40 _ w.heap.size _ (.slice A0 y308.length c0) y308 from Kd.V_mk (by omega) hr24); have HC312 := Aside0.mk (show y308.length ≤ c0 from by omega); clear hr24 hC24 hroom24 hi024 hsz24; have KY24 := Aside0.mk hy24; clear hy24; replace q24 := eq_true q24) | ((with_reducible refine gate_builtin (b := .append) (xs := #[.tmp 37, .tmp 40]) rfl ?_); (try (refine gate_guard (by rfl) ?_; dsimp only)); at_builtin; refine Kd.N_append_rows k40 (w0 := w) w.heap.size rfl (.tmp 37) (.tmp 40) 22 40 (.agg #[(.string ⟨#[]⟩), (.slice none 0 0), (.slice none 0 0), (.slice none 0 0)]) 88 rfl Try.underlying22 info40 rfl (by decide) (by omega) v306 y305 y308 _ _ _ (fun k_ => (P0_ k_ ∨ w.heap.size ≤ k_)) (fun k_ => ((fun k_ => (P0_ k_ ∨ w.heap.size ≤ k_))) k_ ∧ some k_ ≠ (v306 : Value).ownBlock) rfl rfl ?aO ?aR (fun _ hk => hk) ?aF ?aB ?aS ?aL ?_; (case aR => exact (by skip; exact Kd.V_F (Kd.V_mono (ok' := (fun k_ => ((fun k_ => (P0_ k_ ∨ w.heap.size ≤ k_))) k_ ∧ some k_ ≠ (v306 : Value).ownBlock)) (HO312.out) (fun k_ hk => ⟨hk.1, hk.2⟩)))); (case aB => exact (by repeat (first | (with_reducible first | exact HB.out | apply below_alloc | apply pw_below_drewN | apply below_drew1) | exact HB.out))); (case aF => exact (fun k_ hk => (.inr (Nat.le_trans (below_size (by repeat (first | (with_reducible first | exact HB.out | apply below_alloc | apply pw_below_drewN | apply below_drew1) | exact HB.out))) hk)))); (case aO => exact (by (with_reducible repeat (first | apply Kd.N_alloc | apply Kd.N_drewN | apply Kd.N_drew)); exact HO307.out)); (case aS => exact (below_size (by repeat (first | (with_reducible first | exact HB.out | apply below_alloc | apply pw_below_drewN | apply below_drew1) | exact HB.out)))); (case aL => have := LMc18.out; omega); intro v314 w25 ho hb hg hat; rw [← Ny313.out] at ho; have n0_ := Aside0.mk (Kd.V_afterv (ok := (fun k_ => (P0_ k_ ∨ w.heap.size ≤ k_))) (by (with_reducible repeat (first | apply Kd.V_alloc | apply Kd.V_drewN | apply Kd.V_drew)); exact HO_0.out) hg hat); have n1_ := Aside0.mk (Kd.V_afterv (ok := (fun k_ => (P0_ k_ ∨ w.heap.size ≤ k_))) (by (with_reducible repeat (first | apply Kd.V_alloc | apply Kd.V_drewN | apply Kd.V_drew)); exact HO304.out) hg hat); have n2_ := Aside0.mk (Kd.V_afterv (ok := (fun k_ => (P0_ k_ ∨ w.heap.size ≤ k_))) (by (with_reducible repeat (first | apply Kd.V_alloc | apply Kd.V_drewN | apply Kd.V_drew)); exact HO312.out) hg hat); have n3_ := Aside0.mk (hb); have n4_ := Aside0.mk (ho); clear HO_0; clear HO304; clear HO312; clear HB; clear HO307; have HO_0 := n0_; have HO304 := n1_; have HO312 := n2_; have HB := n3_; have HO315 := n4_; clear n0_ n1_ n2_ n3_ n4_; clear ho hb hg hat) | (go_at_call 12; (with_reducible refine (link_Link.calls _ _ l0 t316 t317 t320 t323 _ ?side1 ?side2 A19.out).mono ?_); (case side1 => repeat (first | exact (Kd.V_reads' HO_0.out).2.2 | (with_reducible refine Kd.C_alloc ?_ _) | (with_reducible refine Kd.C_drewN ?_ _) | (with_reducible refine Kd.C_drew ?_))); (case side2 => exact (Kd.V_reads' HO_0.out).2.1); rintro e w26 ⟨v318, v321, rfl, ho0, ho1, hb⟩; have n0_ := Aside0.mk (Kd.V_mono (Kd.V_told (Kd.V_told (Kd.V_old (by (with_reducible repeat (first | apply Kd.V_alloc | apply Kd.V_drewN | apply Kd.V_drew)); exact HO_0.out) hb) (Kd.R_base ho0)) (Kd.R_base ho1)) (fun _ h_ => h_.1)); have n1_ := Aside0.mk (Kd.V_mono (Kd.V_told (Kd.V_told (Kd.V_old (by (with_reducible repeat (first | apply Kd.V_alloc | apply Kd.V_drewN | apply Kd.V_drew)); exact HO304.out) hb) (Kd.R_base ho0)) (Kd.R_base ho1)) (fun _ h_ => h_.1)); have n2_ := Aside0.mk (Kd.V_mono (Kd.V_told (Kd.V_told (Kd.V_old (by (with_reducible repeat (first | apply Kd.V_alloc | apply Kd.V_drewN | apply Kd.V_drew)); exact HO312.out) hb) (Kd.R_base ho0)) (Kd.R_base ho1)) (fun _ h_ => h_.1)); have n3_ := Aside0.mk (Kd.N_mono (Kd.N_told (Kd.N_told (Kd.N_old (by (with_reducible repeat (first | apply Kd.N_alloc | apply Kd.N_drewN | apply Kd.N_drew)); exact HO315.out) hb) (Kd.R_base ho0)) (Kd.R_base ho1)) (fun _ h_ => h_.1)); have n4_ := Aside0.mk (Kd.R_lower (Kd.R_newM (M := fun k_ => (w.heap.size ≤ k_)) ho0 (below_size (by repeat (first | (with_reducible first | exact HB.out | apply below_alloc | apply pw_below_drewN | apply below_drew1) | exact HB.out))) (fun k_ h_ => h_)) (below_size (by repeat (first | (with_reducible first | exact HB.out | apply below_alloc | apply pw_below_drewN | apply below_drew1) | exact HB.out)))); have n5_ := Aside0.mk (Kd.R_lower (Kd.R_newM (M := fun k_ => (w.heap.size ≤ k_)) ho1 (below_size (by repeat (first | (with_reducible first | exact HB.out | apply below_alloc | apply pw_below_drewN | apply below_drew1) | exact HB.out))) (fun k_ h_ => h_)) (below_size (by repeat (first | (with_reducible first | exact HB.out | apply below_alloc | apply pw_below_drewN | apply below_drew1) | exact HB.out)))); have n6_ := Aside0.mk (below_step (by repeat (first | (with_reducible first | exact HB.out | apply below_alloc | apply pw_below_drewN | apply below_drew1) | exact HB.out)) hb); clear HO_0; clear HO304; clear HO312; clear HO315; clear HB; have HO_0 := n0_; have HO304 := n1_; have HO312 := n2_; have HO315 := n3_; have HO319 := n4_; have HO322 := n5_; have HB := n6_; clear n0_ n1_ n2_ n3_ n4_ n5_ n6_; (try clear hb); (try clear hb2); (try clear hk); (try clear hi); (try clear ho0); (try clear ho1)) | ((with_reducible refine gate_dst (N := 7) rfl ?_); (try (refine gate_guard (by rfl) ?_; dsimp only)); refine box_event ?hg (N := 7) ?hd (cs := #[.string (⟨#[]⟩ : ByteArray), .slice none 0 0, .slice none 0 0]) (t := 29) ?hr ?_; (case hd => rfl); (case hg => rfl); (case hr => first | (go_simp; done) | (go_simp; rfl)); intro gb324 hg w27 hbox hb; have n0_ := Aside0.mk (Kd.V_below (Kd.V_elderB (by (with_reducible repeat (first | apply Kd.V_alloc | apply Kd.V_drewN | apply Kd.V_drew)); exact HO_0.out) gb324 (Nat.le_of_eq hg.symm)) hb); have n1_ := Aside0.mk (Kd.V_below (Kd.V_elderB (by (with_reducible repeat (first | apply Kd.V_alloc | apply Kd.V_drewN | apply Kd.V_drew)); exact HO304.out) gb324 (Nat.le_of_eq hg.symm)) hb); have n2_ := Aside0.mk (Kd.V_below (Kd.V_elderB (by (with_reducible repeat (first | apply Kd.V_alloc | apply Kd.V_drewN | apply Kd.V_drew)); exact HO312.out) gb324 (Nat.le_of_eq hg.symm)) hb); have n3_ := Aside0.mk (Kd.N_below (Kd.N_elderB (by (with_reducible repeat (first | apply Kd.N_alloc | apply Kd.N_drewN | apply Kd.N_drew)); exact HO315.out) gb324 (Nat.le_of_eq hg.symm)) hb); have n4_ := Aside0.mk (Kd.R_below (by (with_reducible repeat (first | apply Kd.R_alloc | apply Kd.R_drewN | apply Kd.R_drew)); exact HO319.out) hb); have n5_ := Aside0.mk (Kd.R_below (by (with_reducible repeat (first | apply Kd.R_alloc | apply Kd.R_drewN | apply Kd.R_drew)); exact HO322.out) hb); have n6_ := Aside0.mk (below_step (by repeat (first | (with_reducible first | exact HB.out | apply below_alloc | apply pw_below_drewN | apply below_drew1) | exact HB.out)) hb); have n7_ := Aside0.mk (hbox); have n8_ := Aside0.mk ((by rw [hg]; exact (below_size (by repeat (first | (with_reducible first | exact HB.out | apply below_alloc | apply pw_below_drewN | apply below_drew1) | exact HB.out))) : w.heap.size ≤ gb324)); have n9_ := Aside0.mk ((by rw [hg]; exact (below_size (by repeat (first | (with_reducible first | exact HB.out | apply below_alloc | apply pw_below_drewN | apply below_drew1) | exact HB.out))) : w.heap.size ≤ gb324)); clear HO_0; clear HO304; clear HO312; clear HO315; clear HO319; clear HO322; clear HB; have HO_0 := n0_; have HO304 := n1_; have HO312 := n2_; have HO315 := n3_; have HO319 := n4_; have HO322 := n5_; have HB := n6_; have BK324 := n7_; have GW324 := n8_; have GE324 := n9_; clear n0_ n1_ n2_ n3_ n4_ n5_ n6_ n7_ n8_ n9_; clear hb hbox hg; have hcz28_0 : w27.cell? ⟨gb324, 0, none⟩ = some (.string (⟨#[]⟩ : ByteArray)) := (blk_cell BK324.out 0).trans rfl; have hcz28_1 : w27.cell? ⟨gb324, 1, none⟩ = some (.slice none 0 0) := (blk_cell BK324.out 1).trans rfl; have hcz28_2 : w27.cell? ⟨gb324, 2, none⟩ = some (.slice none 0 0) := (blk_cell BK324.out 2).trans rfl; have hfz28_0 := blk_frozen BK324.out 0; have hfz28_1 := blk_frozen BK324.out 1; have hfz28_2 := blk_frozen BK324.out 2; obtain ⟨Ao29, co29, eo29⟩ := Kd.R_slice HO319.out; subst eo29; obtain ⟨Ao30, co30, eo30⟩ := Kd.R_slice HO322.out; subst eo30; obtain ⟨Ao31, co31, eo31⟩ := Kd.N_slice HO315.out; subst eo31) | (go_at_call 12; (with_reducible refine (link_Link.calls _ _ y313 t325 t326 t329 t332 _ ?side1 ?side2 A20.out).mono ?_); (case side1 => refine (Kd.N_reads' (e := 40) (base := w.heap.size) (ok := fun k_ => ((((P0_ k_ ∨ w.heap.size ≤ k_) ∧ some k_ ≠ (.slice Ao29 t317.length co29 : Value).ownBlock) ∧ some k_ ≠ (.slice Ao30 t320.length co30 : Value).ownBlock) ∧ k_ ≠ gb324)) (n := y313.length) (c := co31) ?_).2.2; exact (by (with_reducible repeat (first | apply Kd.N_alloc | apply Kd.N_drewN | apply Kd.N_drew)); exact (Kd.N_mono (Kd.N_far (p := ⟨gb324, 2, none⟩) (Kd.N_far (p := ⟨gb324, 1, none⟩) (Kd.N_far (p := ⟨gb324, 0, none⟩) (Kd.N_mono HO315.out (fun k_ hk => (⟨hk, hk.2⟩ : _ ∧ k_ ≠ gb324))) (fun _ hk => hk.2) (.string t316)) (fun _ hk => hk.2) (.slice Ao29 t317.length co29)) (fun _ hk => hk.2) (.slice Ao30 t320.length co30)) (fun _ h_ => h_.1)))); (case side2 => exact (Kd.N_reads' HO315.out).2.1); rintro e w32 ⟨v327, v330, rfl, ho0, ho1, hb⟩; have n0_ := Aside0.mk (Kd.V_mono (Kd.V_told (Kd.V_told (Kd.V_old (by (with_reducible repeat (first | apply Kd.V_alloc | apply Kd.V_drewN | apply Kd.V_drew)); exact (Kd.V_mono (Kd.V_far (p := ⟨gb324, 2, none⟩) (Kd.V_far (p := ⟨gb324, 1, none⟩) (Kd.V_far (p := ⟨gb324, 0, none⟩) (Kd.V_mono HO_0.out (fun k_ hk => (⟨hk, hk.2⟩ : _ ∧ k_ ≠ gb324))) (fun _ hk => hk.2) (.string t316)) (fun _ hk => hk.2) (.slice Ao29 t317.length co29)) (fun _ hk => hk.2) (.slice Ao30 t320.length co30)) (fun _ h_ => h_.1))) hb) (Kd.R_base ho0)) (Kd.R_base ho1)) (fun _ h_ => h_.1)); have n1_ := Aside0.mk (Kd.V_mono (Kd.V_told (Kd.V_told (Kd.V_old (by (with_reducible repeat (first | apply Kd.V_alloc | apply Kd.V_drewN | apply Kd.V_drew)); exact (Kd.V_mono (Kd.V_far (p := ⟨gb324, 2, none⟩) (Kd.V_far (p := ⟨gb324, 1, none⟩) (Kd.V_far (p := ⟨gb324, 0, none⟩) (Kd.V_mono HO304.out (fun k_ hk => (⟨hk, hk.2⟩ : _ ∧ k_ ≠ gb324))) (fun _ hk => hk.2) (.string t316)) (fun _ hk => hk.2) (.slice Ao29 t317.length co29)) (fun _ hk => hk.2) (.slice Ao30 t320.length co30)) (fun _ h_ => h_.1))) hb) (Kd.R_base ho0)) (Kd.R_base ho1)) (fun _ h_ => h_.1)); have n2_ := Aside0.mk (Kd.V_mono (Kd.V_told (Kd.V_told (Kd.V_old (by (with_reducible repeat (first | apply Kd.V_alloc | apply Kd.V_drewN | apply Kd.V_drew)); exact (Kd.V_mono (Kd.V_far (p := ⟨gb324, 2, none⟩) (Kd.V_far (p := ⟨gb324, 1, none⟩) (Kd.V_far (p := ⟨gb324, 0, none⟩) (Kd.V_mono HO312.out (fun k_ hk => (⟨hk, hk.2⟩ : _ ∧ k_ ≠ gb324))) (fun _ hk => hk.2) (.string t316)) (fun _ hk => hk.2) (.slice Ao29 t317.length co29)) (fun _ hk => hk.2) (.slice Ao30 t320.length co30)) (fun _ h_ => h_.1))) hb) (Kd.R_base ho0)) (Kd.R_base ho1)) (fun _ h_ => h_.1)); have n3_ := Aside0.mk (Kd.N_mono (Kd.N_told (Kd.N_told (Kd.N_old (by (with_reducible repeat (first | apply Kd.N_alloc | apply Kd.N_drewN | apply Kd.N_drew)); exact (Kd.N_mono (Kd.N_far (p := ⟨gb324, 2, none⟩) (Kd.N_far (p := ⟨gb324, 1, none⟩) (Kd.N_far (p := ⟨gb324, 0, none⟩) (Kd.N_mono HO315.out (fun k_ hk => (⟨hk, hk.2⟩ : _ ∧ k_ ≠ gb324))) (fun _ hk => hk.2) (.string t316)) (fun _ hk => hk.2) (.slice Ao29 t317.length co29)) (fun _ hk => hk.2) (.slice Ao30 t320.length co30)) (fun _ h_ => h_.1))) hb) (Kd.R_base ho0)) (Kd.R_base ho1)) (fun _ h_ => h_.1)); have n4_ := Aside0.mk (Kd.R_elder' (by (with_reducible repeat (first | apply Kd.R_alloc | apply Kd.R_drewN | apply Kd.R_drew)); exact (Kd.R_mono (Kd.R_far (p := ⟨gb324, 2, none⟩) (Kd.R_far (p := ⟨gb324, 1, none⟩) (Kd.R_far (p := ⟨gb324, 0, none⟩) (Kd.R_types HO319.out BK324.out (by decide)) (fun _ hk => hk.2) (.string t316)) (fun _ hk => hk.2) (.slice Ao29 t317.length co29)) (fun _ hk => hk.2) (.slice Ao30 t320.length co30)) (fun _ h_ => h_.1))) (Kd.R_base ho0) hb); have n5_ := Aside0.mk (Kd.R_elder' (by (with_reducible repeat (first | apply Kd.R_alloc | apply Kd.R_drewN | apply Kd.R_drew)); exact (Kd.R_mono (Kd.R_far (p := ⟨gb324, 2, none⟩) (Kd.R_far (p := ⟨gb324, 1, none⟩) (Kd.R_far (p := ⟨gb324, 0, none⟩) (Kd.R_types HO322.out BK324.out (by decide)) (fun _ hk => hk.2) (.string t316)) (fun _ hk => hk.2) (.slice Ao29 t317.length co29)) (fun _ hk => hk.2) (.slice Ao30 t320.length co30)) (fun _ h_ => h_.1))) (Kd.R_base ho1) hb); have n6_ := Aside0.mk (Kd.R_lower (Kd.R_new' (Kd.R_newM (M := fun k_ => (w.heap.size ≤ k_)) ho0 (below_size (by repeat (first | (with_reducible first | exact HB.out | apply below_alloc | apply pw_below_drewN | apply below_drew1 | refine below_set ?_ GE324.out) | exact HB.out))) (fun k_ h_ => h_)) (Kd.R_lt (by (with_reducible repeat (first | apply Kd.R_alloc | apply Kd.R_drewN | apply Kd.R_drew)); exact (Kd.R_mono (Kd.R_far (p := ⟨gb324, 2, none⟩) (Kd.R_far (p := ⟨gb324, 1, none⟩) (Kd.R_far (p := ⟨gb324, 0, none⟩) (Kd.R_types HO319.out BK324.out (by decide)) (fun _ hk => hk.2) (.string t316)) (fun _ hk => hk.2) (.slice Ao29 t317.length co29)) (fun _ hk => hk.2) (.slice Ao30 t320.length co30)) (fun _ h_ => h_.1))))) (below_size (by repeat (first | (with_reducible first | exact HB.out | apply below_alloc | apply pw_below_drewN | apply below_drew1 | refine below_set ?_ GE324.out) | exact HB.out)))); have n7_ := Aside0.mk (Kd.R_lower (Kd.R_new' (Kd.R_newM (M := fun k_ => (w.heap.size ≤ k_)) ho1 (below_size (by repeat (first | (with_reducible first | exact HB.out | apply below_alloc | apply pw_below_drewN | apply below_drew1 | refine below_set ?_ GE324.out) | exact HB.out))) (fun k_ h_ => h_)) (Kd.R_lt (by (with_reducible repeat (first | apply Kd.R_alloc | apply Kd.R_drewN | apply Kd.R_drew)); exact (Kd.R_mono (Kd.R_far (p := ⟨gb324, 2, none⟩) (Kd.R_far (p := ⟨gb324, 1, none⟩) (Kd.R_far (p := ⟨gb324, 0, none⟩) (Kd.R_types HO322.out BK324.out (by decide)) (fun _ hk => hk.2) (.string t316)) (fun _ hk => hk.2) (.slice Ao29 t317.length co29)) (fun _ hk => hk.2) (.slice Ao30 t320.length co30)) (fun _ h_ => h_.1))))) (below_size (by repeat (first | (with_reducible first | exact HB.out | apply below_alloc | apply pw_below_drewN | apply below_drew1 | refine below_set ?_ GE324.out) | exact HB.out)))); have n8_ := Aside0.mk (blk_below (g := gb324) (o := .cells #[.string t316, .slice Ao29 t317.length co29, .slice Ao30 t320.length co30] 29 (0, 0)) (by (with_reducible repeat (first | refine blk_drewN ?_ _ | refine blk_drew ?_ | refine blk_alloc ?_ _)); refine blk_put (cs := #[.string t316, .slice Ao29 t317.length co29, .slice none 0 0]) ?_ 2 _ rfl; (with_reducible repeat (first | refine blk_drewN ?_ _ | refine blk_drew ?_ | refine blk_alloc ?_ _)); refine blk_put (cs := #[.string t316, .slice none 0 0, .slice none 0 0]) ?_ 1 _ rfl; (with_reducible repeat (first | refine blk_drewN ?_ _ | refine blk_drew ?_ | refine blk_alloc ?_ _)); refine blk_put (cs := #[.string (⟨#[]⟩ : ByteArray), .slice none 0 0, .slice none 0 0]) ?_ 0 _ rfl; (with_reducible repeat (first | refine blk_drewN ?_ _ | refine blk_drew ?_ | refine blk_alloc ?_ _)); exact BK324.out) hb); have n9_ := Aside0.mk (below_step (by repeat (first | (with_reducible first | exact HB.out | apply below_alloc | apply pw_below_drewN | apply below_drew1 | refine below_set ?_ GE324.out) | exact HB.out)) hb); clear HO_0; clear HO304; clear HO312; clear HO315; clear HO319; clear HO322; clear BK324; clear HB; have HO_0 := n0_; have HO304 := n1_; have HO312 := n2_; have HO315 := n3_; have HO319 := n4_; have HO322 := n5_; have HO328 := n6_; have HO331 := n7_; have BK324 := n8_; have HB := n9_; clear n0_ n1_ n2_ n3_ n4_ n5_ n6_ n7_ n8_ n9_; (try clear hb); (try clear hb2); (try clear hk); (try clear hi); (try clear ho0); (try clear ho1)) | ((with_reducible refine gate_dst (N := 9) rfl ?_); (try (refine gate_guard (by rfl) ?_; dsimp only)); refine box_event ?hg (N := 9) ?hd (cs := #[.string (⟨#[]⟩ : ByteArray), .slice none 0 0, .slice none 0 0]) (t := 29) ?hr ?_; (case hd => rfl); (case hg => rfl); (case hr => first | (go_simp; done) | (go_simp; rfl)); intro gb333 hg w33 hbox hb; have n0_ := Aside0.mk (Kd.V_below (Kd.V_elderB (by (with_reducible repeat (first | apply Kd.V_alloc | apply Kd.V_drewN | apply Kd.V_drew)); exact HO_0.out) gb333 (Nat.le_of_eq hg.symm)) hb); have n1_ := Aside0.mk (Kd.V_below (Kd.V_elderB (by (with_reducible repeat (first | apply Kd.V_alloc | apply Kd.V_drewN | apply Kd.V_drew)); exact HO304.out) gb333 (Nat.le_of_eq hg.symm)) hb); have n2_ := Aside0.mk (Kd.V_below (Kd.V_elderB (by (with_reducible repeat (first | apply Kd.V_alloc | apply Kd.V_drewN | apply Kd.V_drew)); exact HO312.out) gb333 (Nat.le_of_eq hg.symm)) hb); have n3_ := Aside0.mk (Kd.N_below (Kd.N_elderB (by (with_reducible repeat (first | apply Kd.N_alloc | apply Kd.N_drewN | apply Kd.N_drew)); exact HO315.out) gb333 (Nat.le_of_eq hg.symm)) hb); have n4_ := Aside0.mk (Kd.R_below (by (with_reducible repeat (first | apply Kd.R_alloc | apply Kd.R_drewN | apply Kd.R_drew)); exact HO319.out) hb); have n5_ := Aside0.mk (Kd.R_below (by (with_reducible repeat (first | apply Kd.R_alloc | apply Kd.R_drewN | apply Kd.R_drew)); exact HO322.out) hb); have n6_ := Aside0.mk (Kd.R_below (by (with_reducible repeat (first | apply Kd.R_alloc | apply Kd.R_drewN | apply Kd.R_drew)); exact HO328.out) hb); have n7_ := Aside0.mk (Kd.R_below (by (with_reducible repeat (first | apply Kd.R_alloc | apply Kd.R_drewN | apply Kd.R_drew)); exact HO331.out) hb); have n8_ := Aside0.mk (blk_below (g := gb324) (o := .cells #[.string t316, .slice Ao29 t317.length co29, .slice Ao30 t320.length co30] 29 (0, 0)) (by (with_reducible repeat (first | refine blk_drewN ?_ _ | refine blk_drew ?_ | refine blk_alloc ?_ _)); exact BK324.out) hb); have n9_ := Aside0.mk (below_step (by repeat (first | (with_reducible first | exact HB.out | apply below_alloc | apply pw_below_drewN | apply below_drew1 | refine below_set ?_ GE324.out) | exact HB.out)) hb); have n10_ := Aside0.mk (hbox); have n11_ := Aside0.mk ((by rw [hg]; exact (below_size (by repeat (first | (with_reducible first | exact HB.out | apply below_alloc | apply pw_below_drewN | apply below_drew1 | refine below_set ?_ GE324.out) | exact HB.out))) : w.heap.size ≤ gb333)); have n12_ := Aside0.mk ((by rw [hg]; exact (below_size (by repeat (first | (with_reducible first | exact HB.out | apply below_alloc | apply pw_below_drewN | apply below_drew1 | refine below_set ?_ GE324.out) | exact HB.out))) : w.heap.size ≤ gb333)); have n13_ := Aside0.mk ((by rw [hg]; exact Nat.ne_of_lt (blk_lt (g := gb324) (o := .cells #[.string t316, .slice Ao29 t317.length co29, .slice Ao30 t320.length co30] 29 (0, 0)) (by (with_reducible repeat (first | refine blk_drewN ?_ _ | refine blk_drew ?_ | refine blk_alloc ?_ _)); exact BK324.out)) : gb324 ≠ gb333)); have n14_ := Aside0.mk ((by rw [hg]; exact Nat.ne_of_gt (blk_lt (g := gb324) (o := .cells #[.string t316, .slice Ao29 t317.length co29, .slice Ao30 t320.length co30] 29 (0, 0)) (by (with_reducible repeat (first | refine blk_drewN ?_ _ | refine blk_drew ?_ | refine blk_alloc ?_ _)); exact BK324.out)) : gb333 ≠ gb324)); clear HO_0; clear HO304; clear HO312; clear HO315; clear HO319; clear HO322; clear HO328; clear HO331; clear BK324; clear HB; have HO_0 := n0_; have HO304 := n1_; have HO312 := n2_; have HO315 := n3_; have HO319 := n4_; have HO322 := n5_; have HO328 := n6_; have HO331 := n7_; have BK324 := n8_; have HB := n9_; have BK333 := n10_; have GW333 := n11_; have GE333 := n12_; have NB324_333 := n13_; have NB333_324 := n14_; clear n0_ n1_ n2_ n3_ n4_ n5_ n6_ n7_ n8_ n9_ n10_ n11_ n12_ n13_ n14_; clear hb hbox hg; have hnb34 := NB333_324.out; have hnc34 := NB324_333.out; have hcz35_0 : w33.cell? ⟨gb333, 0, none⟩ = some (.string (⟨#[]⟩ : ByteArray)) := (blk_cell BK333.out 0).trans rfl; have hcz35_1 : w33.cell? ⟨gb333, 1, none⟩ = some (.slice none 0 0) := (blk_cell BK333.out 1).trans rfl; have hcz35_2 : w33.cell? ⟨gb333, 2, none⟩ = some (.slice none 0 0) := (blk_cell BK333.out 2).trans rfl; have hfz35_0 := blk_frozen BK333.out 0; have hfz35_1 := blk_frozen BK333.out 1; have hfz35_2 := blk_frozen BK333.out 2; obtain ⟨Ao36, co36, eo36⟩ := Kd.R_slice HO328.out; subst eo36; obtain ⟨Ao37, co37, eo37⟩ := Kd.R_slice HO331.out; subst eo37)))
                      (try simp only [Act.put, List.setIfInBounds_toArray, List.set_cons_zero, List.set_cons_succ])
                      go_cut [57] (fun v57 wc => ∃ (kq : Nat) (x57_20 : Bool), v57 = .bool x57_20 ∧ Aside0 (cotterlaw07_LinkOrder.j2 kq t323 t332 x57_20 t316 t317 t320 t325 t326 t329 = some r) ∧ Aside0 (kq ≤ kj8) ∧ Aside0 (Kd.R (Kd.int .i64) 2 wc w.heap.size (fun k_ => (w.heap.size ≤ k_) ∧ some k_ ≠ ((.slice Ao36 t326.length co36) : Value).ownBlock) (.slice Ao29 t317.length co29) t317) ∧ Aside0 (Kd.R k36 36 wc w.heap.size (fun k_ => (w.heap.size ≤ k_) ∧ some k_ ≠ ((.slice Ao37 t329.length co37) : Value).ownBlock) (.slice Ao30 t320.length co30) t320) ∧ Aside0 (Kd.R (Kd.int .i64) 2 wc w.heap.size (fun k_ => (w.heap.size ≤ k_) ∧ some k_ ≠ ((.slice Ao29 t317.length co29) : Value).ownBlock) (.slice Ao36 t326.length co36) t326) ∧ Aside0 (Kd.R k36 36 wc w.heap.size (fun k_ => (w.heap.size ≤ k_) ∧ some k_ ≠ ((.slice Ao30 t320.length co30) : Value).ownBlock) (.slice Ao37 t329.length co37) t329) ∧ Aside0 (wc.heap[gb324]? = some (.cells #[.string t316, (.slice Ao29 t317.length co29), (.slice Ao30 t320.length co30)] 29 (0, 0))) ∧ Aside0 (wc.heap[gb333]? = some (.cells #[.string t325, (.slice Ao36 t326.length co36), (.slice Ao37 t329.length co37)] 29 (0, 0))) ∧ Aside0 (Below w.heap.size w wc))
                      case first =>
                        have H := HC21.out
                        clear HC21
                        by_cases c38 : t323 = 7
                        · rw [if_pos c38] at H
                          have c38b0 : (t323 == 7) = true := beq_iff_eq.mpr c38
                          have c38b1 : (t323 != 7) = false := bne_eq_false_iff_eq.mpr c38
                          clear c38
                          (first | rw [c38b0] | (simp only [i64_w, i32_w]; rw [c38b0]) | skip)
                          have H' := Aside0.mk H
                          clear H
                          go_wp2
                          repeat (go_quiet (fail); try go_wp2)
                          go_meet
                          case rel => exact ⟨_, (true), (by first | rfl | (simp; done) | (simp [*]; done)), H', ⟨by have := HJ2.out; have := HJ8.out; first | omega | exact Nat.le_refl _⟩, ⟨by (with_reducible repeat (first | apply Kd.R_alloc | apply Kd.R_drewN | apply Kd.R_drew)); exact Kd.R_mono (Kd.R_far (p := ⟨gb333, 2, none⟩) (Kd.R_far (p := ⟨gb333, 1, none⟩) (Kd.R_far (p := ⟨gb333, 0, none⟩) (Kd.R_types HO319.out BK333.out (by decide)) (fun _ hk => hk.2) (.string t325)) (fun _ hk => hk.2) (.slice Ao36 t326.length co36)) (fun _ hk => hk.2) (.slice Ao37 t329.length co37)) (fun _ hk => ⟨hk.1.1.1, hk.1.2⟩)⟩, ⟨by (with_reducible repeat (first | apply Kd.R_alloc | apply Kd.R_drewN | apply Kd.R_drew)); exact Kd.R_mono (Kd.R_far (p := ⟨gb333, 2, none⟩) (Kd.R_far (p := ⟨gb333, 1, none⟩) (Kd.R_far (p := ⟨gb333, 0, none⟩) (Kd.R_types HO322.out BK333.out (by decide)) (fun _ hk => hk.2) (.string t325)) (fun _ hk => hk.2) (.slice Ao36 t326.length co36)) (fun _ hk => hk.2) (.slice Ao37 t329.length co37)) (fun _ hk => ⟨hk.1.1.1, hk.1.2⟩)⟩, ⟨by (with_reducible repeat (first | apply Kd.R_alloc | apply Kd.R_drewN | apply Kd.R_drew)); exact Kd.R_mono (Kd.R_far (p := ⟨gb333, 2, none⟩) (Kd.R_far (p := ⟨gb333, 1, none⟩) (Kd.R_far (p := ⟨gb333, 0, none⟩) (Kd.R_types HO328.out BK333.out (by decide)) (fun _ hk => hk.2) (.string t325)) (fun _ hk => hk.2) (.slice Ao36 t326.length co36)) (fun _ hk => hk.2) (.slice Ao37 t329.length co37)) (fun _ hk => ⟨hk.1.1.1, hk.1.2⟩)⟩, ⟨by (with_reducible repeat (first | apply Kd.R_alloc | apply Kd.R_drewN | apply Kd.R_drew)); exact Kd.R_mono (Kd.R_far (p := ⟨gb333, 2, none⟩) (Kd.R_far (p := ⟨gb333, 1, none⟩) (Kd.R_far (p := ⟨gb333, 0, none⟩) (Kd.R_types HO331.out BK333.out (by decide)) (fun _ hk => hk.2) (.string t325)) (fun _ hk => hk.2) (.slice Ao36 t326.length co36)) (fun _ hk => hk.2) (.slice Ao37 t329.length co37)) (fun _ hk => ⟨hk.1.1.1, hk.1.2⟩)⟩, ⟨by (with_reducible repeat (first | refine blk_drewN ?_ _ | refine blk_drew ?_ | refine blk_alloc ?_ _)); refine blk_far ?_ NB324_333.out _; (with_reducible repeat (first | refine blk_drewN ?_ _ | refine blk_drew ?_ | refine blk_alloc ?_ _)); refine blk_far ?_ NB324_333.out _; (with_reducible repeat (first | refine blk_drewN ?_ _ | refine blk_drew ?_ | refine blk_alloc ?_ _)); refine blk_far ?_ NB324_333.out _; (with_reducible repeat (first | refine blk_drewN ?_ _ | refine blk_drew ?_ | refine blk_alloc ?_ _)); exact BK324.out⟩, ⟨by (with_reducible repeat (first | refine blk_drewN ?_ _ | refine blk_drew ?_ | refine blk_alloc ?_ _)); refine blk_put (cs := #[.string t325, .slice Ao36 t326.length co36, .slice none 0 0]) ?_ 2 _ rfl; (with_reducible repeat (first | refine blk_drewN ?_ _ | refine blk_drew ?_ | refine blk_alloc ?_ _)); refine blk_put (cs := #[.string t325, .slice none 0 0, .slice none 0 0]) ?_ 1 _ rfl; (with_reducible repeat (first | refine blk_drewN ?_ _ | refine blk_drew ?_ | refine blk_alloc ?_ _)); refine blk_put (cs := #[.string (⟨#[]⟩ : ByteArray), .slice none 0 0, .slice none 0 0]) ?_ 0 _ rfl; (with_reducible repeat (first | refine blk_drewN ?_ _ | refine blk_drew ?_ | refine blk_alloc ?_ _)); exact BK333.out⟩, ⟨by repeat (first | (with_reducible first | exact HB.out | apply below_alloc | apply pw_below_drewN | apply below_drew1 | refine below_set ?_ GE324.out | refine below_set ?_ GE333.out) | exact HB.out)⟩⟩
                        · rw [if_neg c38] at H
                          have c38b0 : (t323 == 7) = false := beq_eq_false_iff_ne.mpr c38
                          have c38b1 : (t323 != 7) = true := bne_iff_ne.mpr c38
                          (first | rw [c38b0] | (simp only [i64_w, i32_w]; rw [c38b0]) | skip)
                          have H' := Aside0.mk H
                          clear H
                          go_wp2
                          repeat (go_quiet (fail); try go_wp2)
                          go_meet
                          case rel => exact ⟨_, ((t332 == 7)), (by first | rfl | (simp; done) | (simp [*]; done)), H', ⟨by have := HJ2.out; have := HJ8.out; first | omega | exact Nat.le_refl _⟩, ⟨by (with_reducible repeat (first | apply Kd.R_alloc | apply Kd.R_drewN | apply Kd.R_drew)); exact Kd.R_mono (Kd.R_far (p := ⟨gb333, 2, none⟩) (Kd.R_far (p := ⟨gb333, 1, none⟩) (Kd.R_far (p := ⟨gb333, 0, none⟩) (Kd.R_types HO319.out BK333.out (by decide)) (fun _ hk => hk.2) (.string t325)) (fun _ hk => hk.2) (.slice Ao36 t326.length co36)) (fun _ hk => hk.2) (.slice Ao37 t329.length co37)) (fun _ hk => ⟨hk.1.1.1, hk.1.2⟩)⟩, ⟨by (with_reducible repeat (first | apply Kd.R_alloc | apply Kd.R_drewN | apply Kd.R_drew)); exact Kd.R_mono (Kd.R_far (p := ⟨gb333, 2, none⟩) (Kd.R_far (p := ⟨gb333, 1, none⟩) (Kd.R_far (p := ⟨gb333, 0, none⟩) (Kd.R_types HO322.out BK333.out (by decide)) (fun _ hk => hk.2) (.string t325)) (fun _ hk => hk.2) (.slice Ao36 t326.length co36)) (fun _ hk => hk.2) (.slice Ao37 t329.length co37)) (fun _ hk => ⟨hk.1.1.1, hk.1.2⟩)⟩, ⟨by (with_reducible repeat (first | apply Kd.R_alloc | apply Kd.R_drewN | apply Kd.R_drew)); exact Kd.R_mono (Kd.R_far (p := ⟨gb333, 2, none⟩) (Kd.R_far (p := ⟨gb333, 1, none⟩) (Kd.R_far (p := ⟨gb333, 0, none⟩) (Kd.R_types HO328.out BK333.out (by decide)) (fun _ hk => hk.2) (.string t325)) (fun _ hk => hk.2) (.slice Ao36 t326.length co36)) (fun _ hk => hk.2) (.slice Ao37 t329.length co37)) (fun _ hk => ⟨hk.1.1.1, hk.1.2⟩)⟩, ⟨by (with_reducible repeat (first | apply Kd.R_alloc | apply Kd.R_drewN | apply Kd.R_drew)); exact Kd.R_mono (Kd.R_far (p := ⟨gb333, 2, none⟩) (Kd.R_far (p := ⟨gb333, 1, none⟩) (Kd.R_far (p := ⟨gb333, 0, none⟩) (Kd.R_types HO331.out BK333.out (by decide)) (fun _ hk => hk.2) (.string t325)) (fun _ hk => hk.2) (.slice Ao36 t326.length co36)) (fun _ hk => hk.2) (.slice Ao37 t329.length co37)) (fun _ hk => ⟨hk.1.1.1, hk.1.2⟩)⟩, ⟨by (with_reducible repeat (first | refine blk_drewN ?_ _ | refine blk_drew ?_ | refine blk_alloc ?_ _)); refine blk_far ?_ NB324_333.out _; (with_reducible repeat (first | refine blk_drewN ?_ _ | refine blk_drew ?_ | refine blk_alloc ?_ _)); refine blk_far ?_ NB324_333.out _; (with_reducible repeat (first | refine blk_drewN ?_ _ | refine blk_drew ?_ | refine blk_alloc ?_ _)); refine blk_far ?_ NB324_333.out _; (with_reducible repeat (first | refine blk_drewN ?_ _ | refine blk_drew ?_ | refine blk_alloc ?_ _)); exact BK324.out⟩, ⟨by (with_reducible repeat (first | refine blk_drewN ?_ _ | refine blk_drew ?_ | refine blk_alloc ?_ _)); refine blk_put (cs := #[.string t325, .slice Ao36 t326.length co36, .slice none 0 0]) ?_ 2 _ rfl; (with_reducible repeat (first | refine blk_drewN ?_ _ | refine blk_drew ?_ | refine blk_alloc ?_ _)); refine blk_put (cs := #[.string t325, .slice none 0 0, .slice none 0 0]) ?_ 1 _ rfl; (with_reducible repeat (first | refine blk_drewN ?_ _ | refine blk_drew ?_ | refine blk_alloc ?_ _)); refine blk_put (cs := #[.string (⟨#[]⟩ : ByteArray), .slice none 0 0, .slice none 0 0]) ?_ 0 _ rfl; (with_reducible repeat (first | refine blk_drewN ?_ _ | refine blk_drew ?_ | refine blk_alloc ?_ _)); exact BK333.out⟩, ⟨by repeat (first | (with_reducible first | exact HB.out | apply below_alloc | apply pw_below_drewN | apply below_drew1 | refine below_set ?_ GE324.out | refine below_set ?_ GE333.out) | exact HB.out)⟩⟩
                      case rest =>
                        clear HC21
                        try clear c1
                        try clear c2
                        try clear p2
                        try clear q2
                        try clear c3
                        try clear c4
                        try clear c5
                        try clear c6
                        try clear p6
                        try clear c10
                        try clear c10b0
                        try clear c11
                        try clear c11b0
                        try clear c11b1
                        try clear c11b2
                        try clear c13
                        try clear c13b0
                        try clear c13b1
                        try clear c14
                        try clear c14b0
                        try clear c14b1
                        try clear c15
                        try clear c16
                        try clear c16b0
                        try clear c17
                        try clear c17b0
                        try clear c18
                        try clear c22
                        try clear q22
                        try clear q24
                        try clear c34
                        try clear c38
                        try clear c38b0
                        try clear c38b1
                        try clear hcz28_0
                        try clear hcz28_1
                        try clear hcz28_2
                        try clear hcz35_0
                        try clear hcz35_1
                        try clear hcz35_2
                        try clear hfz28_0
                        try clear hfz28_1
                        try clear hfz28_2
                        try clear hfz35_0
                        try clear hfz35_1
                        try clear hfz35_2
                        try clear p2
                        try clear p6
                        try clear q022
                        try clear q22
                        try clear q24
                        obtain ⟨kq, x57_20, rfl, HA, HJ20, HO_325001, HO_325002, HO_334001, HO_334002, BK324, BK333, HB⟩ := hcut
                        cases kq with
                        | zero => exact absurd HA.out (by simp [cotterlaw07_LinkOrder.j2])
                        | succ kj20 =>
                          have H := HA.out
                          clear HA
                          simp only [cotterlaw07_LinkOrder.j2] at H
                          by_cases c39 : x57_20 = true
                          · subst c39
                            have H1 : ((cotterlaw07_live.f).bind fun t334 => (some t334)) = some r := by rw [if_pos rfl] at H; exact H
                            clear H
                            have H := H1
                            clear H1
                            replace H := Option.bind_eq_some_iff.mp H
                            obtain ⟨t334, A400, H⟩ := H
                            replace H : (some t334) = some r := H
                            have A40 := Aside0.mk A400
                            clear A400
                            obtain rfl := Option.some.inj H
                            go_wp2_with (first | (go_at_call 10; (with_reducible refine (cotterlaw07_live.calls  t334 _ A40.out).mono ?_); rintro e w41 ⟨rfl, hb⟩; have n0_ := Aside0.mk (Kd.R_below (by (with_reducible repeat (first | apply Kd.R_alloc | apply Kd.R_drewN | apply Kd.R_drew)); exact HO_325001.out) hb); have n1_ := Aside0.mk (Kd.R_below (by (with_reducible repeat (first | apply Kd.R_alloc | apply Kd.R_drewN | apply Kd.R_drew)); exact HO_325002.out) hb); have n2_ := Aside0.mk (Kd.R_below (by (with_reducible repeat (first | apply Kd.R_alloc | apply Kd.R_drewN | apply Kd.R_drew)); exact HO_334001.out) hb); have n3_ := Aside0.mk (Kd.R_below (by (with_reducible repeat (first | apply Kd.R_alloc | apply Kd.R_drewN | apply Kd.R_drew)); exact HO_334002.out) hb); have n4_ := Aside0.mk (blk_below (g := gb324) (o := .cells #[.string t316, .slice Ao29 t317.length co29, .slice Ao30 t320.length co30] 29 (0, 0)) (by (with_reducible repeat (first | refine blk_drewN ?_ _ | refine blk_drew ?_ | refine blk_alloc ?_ _)); exact BK324.out) hb); have n5_ := Aside0.mk (blk_below (g := gb333) (o := .cells #[.string t325, .slice Ao36 t326.length co36, .slice Ao37 t329.length co37] 29 (0, 0)) (by (with_reducible repeat (first | refine blk_drewN ?_ _ | refine blk_drew ?_ | refine blk_alloc ?_ _)); exact BK333.out) hb); have n6_ := Aside0.mk (below_step (by repeat (first | (with_reducible first | exact HB.out | apply below_alloc | apply pw_below_drewN | apply below_drew1 | refine below_set ?_ GE324.out | refine below_set ?_ GE333.out) | exact HB.out)) hb); clear HO_325001; clear HO_325002; clear HO_334001; clear HO_334002; clear BK324; clear BK333; clear HB; have HO_325001 := n0_; have HO_325002 := n1_; have HO_334001 := n2_; have HO_334002 := n3_; have BK324 := n4_; have BK333 := n5_; have HB := n6_; clear n0_ n1_ n2_ n3_ n4_ n5_ n6_; (try clear hb); (try clear hb2); (try clear hk); (try clear hi)))
                            repeat (go_quiet (first | (go_at_call 10; (with_reducible refine (cotterlaw07_live.calls  t334 _ A40.out).mono ?_); rintro e w41 ⟨rfl, hb⟩; have n0_ := Aside0.mk (Kd.R_below (by (with_reducible repeat (first | apply Kd.R_alloc | apply Kd.R_drewN | apply Kd.R_drew)); exact HO_325001.out) hb); have n1_ := Aside0.mk (Kd.R_below (by (with_reducible repeat (first | apply Kd.R_alloc | apply Kd.R_drewN | apply Kd.R_drew)); exact HO_325002.out) hb); have n2_ := Aside0.mk (Kd.R_below (by (with_reducible repeat (first | apply Kd.R_alloc | apply Kd.R_drewN | apply Kd.R_drew)); exact HO_334001.out) hb); have n3_ := Aside0.mk (Kd.R_below (by (with_reducible repeat (first | apply Kd.R_alloc | apply Kd.R_drewN | apply Kd.R_drew)); exact HO_334002.out) hb); have n4_ := Aside0.mk (blk_below (g := gb324) (o := .cells #[.string t316, .slice Ao29 t317.length co29, .slice Ao30 t320.length co30] 29 (0, 0)) (by (with_reducible repeat (first | refine blk_drewN ?_ _ | refine blk_drew ?_ | refine blk_alloc ?_ _)); exact BK324.out) hb); have n5_ := Aside0.mk (blk_below (g := gb333) (o := .cells #[.string t325, .slice Ao36 t326.length co36, .slice Ao37 t329.length co37] 29 (0, 0)) (by (with_reducible repeat (first | refine blk_drewN ?_ _ | refine blk_drew ?_ | refine blk_alloc ?_ _)); exact BK333.out) hb); have n6_ := Aside0.mk (below_step (by repeat (first | (with_reducible first | exact HB.out | apply below_alloc | apply pw_below_drewN | apply below_drew1 | refine below_set ?_ GE324.out | refine below_set ?_ GE333.out) | exact HB.out)) hb); clear HO_325001; clear HO_325002; clear HO_334001; clear HO_334002; clear BK324; clear BK333; clear HB; have HO_325001 := n0_; have HO_325002 := n1_; have HO_334001 := n2_; have HO_334002 := n3_; have BK324 := n4_; have BK333 := n5_; have HB := n6_; clear n0_ n1_ n2_ n3_ n4_ n5_ n6_; (try clear hb); (try clear hb2); (try clear hk); (try clear hi))); try go_wp2_with (first | (go_at_call 10; (with_reducible refine (cotterlaw07_live.calls  t334 _ A40.out).mono ?_); rintro e w41 ⟨rfl, hb⟩; have n0_ := Aside0.mk (Kd.R_below (by (with_reducible repeat (first | apply Kd.R_alloc | apply Kd.R_drewN | apply Kd.R_drew)); exact HO_325001.out) hb); have n1_ := Aside0.mk (Kd.R_below (by (with_reducible repeat (first | apply Kd.R_alloc | apply Kd.R_drewN | apply Kd.R_drew)); exact HO_325002.out) hb); have n2_ := Aside0.mk (Kd.R_below (by (with_reducible repeat (first | apply Kd.R_alloc | apply Kd.R_drewN | apply Kd.R_drew)); exact HO_334001.out) hb); have n3_ := Aside0.mk (Kd.R_below (by (with_reducible repeat (first | apply Kd.R_alloc | apply Kd.R_drewN | apply Kd.R_drew)); exact HO_334002.out) hb); have n4_ := Aside0.mk (blk_below (g := gb324) (o := .cells #[.string t316, .slice Ao29 t317.length co29, .slice Ao30 t320.length co30] 29 (0, 0)) (by (with_reducible repeat (first | refine blk_drewN ?_ _ | refine blk_drew ?_ | refine blk_alloc ?_ _)); exact BK324.out) hb); have n5_ := Aside0.mk (blk_below (g := gb333) (o := .cells #[.string t325, .slice Ao36 t326.length co36, .slice Ao37 t329.length co37] 29 (0, 0)) (by (with_reducible repeat (first | refine blk_drewN ?_ _ | refine blk_drew ?_ | refine blk_alloc ?_ _)); exact BK333.out) hb); have n6_ := Aside0.mk (below_step (by repeat (first | (with_reducible first | exact HB.out | apply below_alloc | apply pw_below_drewN | apply below_drew1 | refine below_set ?_ GE324.out | refine below_set ?_ GE333.out) | exact HB.out)) hb); clear HO_325001; clear HO_325002; clear HO_334001; clear HO_334002; clear BK324; clear BK333; clear HB; have HO_325001 := n0_; have HO_325002 := n1_; have HO_334001 := n2_; have HO_334002 := n3_; have BK324 := n4_; have BK333 := n5_; have HB := n6_; clear n0_ n1_ n2_ n3_ n4_ n5_ n6_; (try clear hb); (try clear hb2); (try clear hk); (try clear hi))))
                            go_ret
                            exact ⟨by first | rfl | (simp [errW_none, errW_some] <;> rfl) | (simp only [← hji12]; first | rfl | (simp [errW_none, errW_some] <;> rfl)) | (simp [*, errW_none, errW_some] <;> rfl), by repeat (first | (with_reducible first | exact HB.out | apply below_alloc | apply pw_below_drewN | apply below_drew1 | refine below_set ?_ GE324.out | refine below_set ?_ GE333.out) | exact HB.out)⟩
                          · replace c39 := Bool.eq_false_iff.mpr c39
                            subst c39
                            have H1 : (if ((t323 == 0) != (t332 == 0)) = true then (cotterlaw07_LinkOrder.j3 kj20 true t316 t317 t320 t325 t326 t329) else (if (t316.size : Int) = (t325.size : Int) then (if (t317.length : Int) = (t326.length : Int) then (cotterlaw07_LinkOrder.j3 kj20 ((t320.length : Int) != (t329.length : Int)) t316 t317 t320 t325 t326 t329) else (cotterlaw07_LinkOrder.j3 kj20 true t316 t317 t320 t325 t326 t329)) else (cotterlaw07_LinkOrder.j3 kj20 true t316 t317 t320 t325 t326 t329))) = some r := by rw [if_neg (show ¬ (false = true) by decide)] at H; exact H
                            clear H
                            have H := H1
                            clear H1
                            have HC42 := Aside0.mk H
                            clear H
                            go_upto_region 13 with (fail)
                            repeat (go_quiet (fail); go_upto_region 13 with (fail))
                            go_cut [90] (fun v90 wc => ∃ (kq : Nat) (x90_41 : Bool), v90 = .bool x90_41 ∧ Aside0 (cotterlaw07_LinkOrder.j3 kq x90_41 t316 t317 t320 t325 t326 t329 = some r) ∧ Aside0 (kq ≤ kj20) ∧ Aside0 (Kd.R (Kd.int .i64) 2 wc w.heap.size (fun k_ => (w.heap.size ≤ k_) ∧ some k_ ≠ ((.slice Ao36 t326.length co36) : Value).ownBlock) (.slice Ao29 t317.length co29) t317) ∧ Aside0 (Kd.R k36 36 wc w.heap.size (fun k_ => (w.heap.size ≤ k_) ∧ some k_ ≠ ((.slice Ao37 t329.length co37) : Value).ownBlock) (.slice Ao30 t320.length co30) t320) ∧ Aside0 (Kd.R (Kd.int .i64) 2 wc w.heap.size (fun k_ => (w.heap.size ≤ k_) ∧ some k_ ≠ ((.slice Ao29 t317.length co29) : Value).ownBlock) (.slice Ao36 t326.length co36) t326) ∧ Aside0 (Kd.R k36 36 wc w.heap.size (fun k_ => (w.heap.size ≤ k_) ∧ some k_ ≠ ((.slice Ao30 t320.length co30) : Value).ownBlock) (.slice Ao37 t329.length co37) t329) ∧ Aside0 (wc.heap[gb324]? = some (.cells #[.string t316, (.slice Ao29 t317.length co29), (.slice Ao30 t320.length co30)] 29 (0, 0))) ∧ Aside0 (wc.heap[gb333]? = some (.cells #[.string t325, (.slice Ao36 t326.length co36), (.slice Ao37 t329.length co37)] 29 (0, 0))) ∧ Aside0 (Below w.heap.size w wc))
                            case first =>
                              have H := HC42.out
                              clear HC42
                              by_cases c43 : ((t323 == 0) != (t332 == 0)) = true
                              · rw [if_pos c43] at H
                                have c43b0 : ((t323 == 0) != (t332 == 0)) = true := c43
                                (try (have c43b1 : decide ((t323 == 0) = (t332 == 0)) = false := by simpa using c43))
                                (try (have c43b2 : ((t323 == 0) == (t332 == 0)) = false := by simpa using c43))
                                (try (have c43b3 : ¬ ((t323 == 0) = (t332 == 0)) := by simpa using c43))
                                clear c43
                                (first | rw [c43b0] | (simp only [i64_w, i32_w]; rw [c43b0]) | skip)
                                have H' := Aside0.mk H
                                clear H
                                go_wp2
                                repeat (go_quiet (fail); try go_wp2)
                                go_meet
                                case rel => exact ⟨_, (true), (by first | rfl | (simp; done) | (simp [*]; done)), H', ⟨by have := HJ2.out; have := HJ8.out; have := HJ20.out; first | omega | exact Nat.le_refl _⟩, ⟨by (with_reducible repeat (first | apply Kd.R_alloc | apply Kd.R_drewN | apply Kd.R_drew)); exact HO_325001.out⟩, ⟨by (with_reducible repeat (first | apply Kd.R_alloc | apply Kd.R_drewN | apply Kd.R_drew)); exact HO_325002.out⟩, ⟨by (with_reducible repeat (first | apply Kd.R_alloc | apply Kd.R_drewN | apply Kd.R_drew)); exact HO_334001.out⟩, ⟨by (with_reducible repeat (first | apply Kd.R_alloc | apply Kd.R_drewN | apply Kd.R_drew)); exact HO_334002.out⟩, ⟨by (with_reducible repeat (first | refine blk_drewN ?_ _ | refine blk_drew ?_ | refine blk_alloc ?_ _)); exact BK324.out⟩, ⟨by (with_reducible repeat (first | refine blk_drewN ?_ _ | refine blk_drew ?_ | refine blk_alloc ?_ _)); exact BK333.out⟩, ⟨by repeat (first | (with_reducible first | exact HB.out | apply below_alloc | apply pw_below_drewN | apply below_drew1 | refine below_set ?_ GE324.out | refine below_set ?_ GE333.out) | exact HB.out)⟩⟩
                              · rw [if_neg c43] at H
                                have c43b0 : ((t323 == 0) != (t332 == 0)) = false := by simpa using c43
                                (try (have c43b1 : decide ((t323 == 0) = (t332 == 0)) = true := by simpa using c43))
                                (try (have c43b2 : ((t323 == 0) == (t332 == 0)) = true := by simpa using c43))
                                clear c43
                                (first | rw [c43b0] | (simp only [i64_w, i32_w]; rw [c43b0]) | skip)
                                by_cases c44 : (t316.size : Int) = (t325.size : Int)
                                · rw [if_pos c44] at H
                                  have c44b0 : ((t316.size : Int) == (t325.size : Int)) = true := beq_iff_eq.mpr c44
                                  have c44b1 : ((t316.size : Int) != (t325.size : Int)) = false := bne_eq_false_iff_eq.mpr c44
                                  have c44b2 : (t316.size == t325.size) = true := by first | simpa using c44 | (simp at c44 ⊢; omega)
                                  clear c44
                                  by_cases c45 : (t317.length : Int) = (t326.length : Int)
                                  · rw [if_pos c45] at H
                                    have c45b0 : ((t317.length : Int) == (t326.length : Int)) = true := beq_iff_eq.mpr c45
                                    have c45b1 : ((t317.length : Int) != (t326.length : Int)) = false := bne_eq_false_iff_eq.mpr c45
                                    have c45b2 : (t317.length == t326.length) = true := by first | simpa using c45 | (simp at c45 ⊢; omega)
                                    clear c45
                                    have H' := Aside0.mk H
                                    clear H
                                    have hnb46 := NB324_333.out
                                    have hnc46 := NB333_324.out
                                    have hcz47_0 : wc.cell? ⟨gb324, 0, none⟩ = some (.string t316) := (blk_cell BK324.out 0).trans rfl
                                    have hcz47_1 : wc.cell? ⟨gb324, 1, none⟩ = some (.slice Ao29 t317.length co29) := (blk_cell BK324.out 1).trans rfl
                                    have hcz47_2 : wc.cell? ⟨gb324, 2, none⟩ = some (.slice Ao30 t320.length co30) := (blk_cell BK324.out 2).trans rfl
                                    have hfz47_0 := blk_frozen BK324.out 0
                                    have hfz47_1 := blk_frozen BK324.out 1
                                    have hfz47_2 := blk_frozen BK324.out 2
                                    have hcz48_0 : wc.cell? ⟨gb333, 0, none⟩ = some (.string t325) := (blk_cell BK333.out 0).trans rfl
                                    have hcz48_1 : wc.cell? ⟨gb333, 1, none⟩ = some (.slice Ao36 t326.length co36) := (blk_cell BK333.out 1).trans rfl
                                    have hcz48_2 : wc.cell? ⟨gb333, 2, none⟩ = some (.slice Ao37 t329.length co37) := (blk_cell BK333.out 2).trans rfl
                                    have hfz48_0 := blk_frozen BK333.out 0
                                    have hfz48_1 := blk_frozen BK333.out 1
                                    have hfz48_2 := blk_frozen BK333.out 2
                                    go_wp2
                                    repeat (go_quiet (fail); try go_wp2)
                                    go_meet
                                    case rel => exact ⟨_, (((t320.length : Int) != (t329.length : Int))), (by first | rfl | (simp; done) | (simp [*]; done)), H', ⟨by have := HJ2.out; have := HJ8.out; have := HJ20.out; first | omega | exact Nat.le_refl _⟩, ⟨by (with_reducible repeat (first | apply Kd.R_alloc | apply Kd.R_drewN | apply Kd.R_drew)); exact HO_325001.out⟩, ⟨by (with_reducible repeat (first | apply Kd.R_alloc | apply Kd.R_drewN | apply Kd.R_drew)); exact HO_325002.out⟩, ⟨by (with_reducible repeat (first | apply Kd.R_alloc | apply Kd.R_drewN | apply Kd.R_drew)); exact HO_334001.out⟩, ⟨by (with_reducible repeat (first | apply Kd.R_alloc | apply Kd.R_drewN | apply Kd.R_drew)); exact HO_334002.out⟩, ⟨by (with_reducible repeat (first | refine blk_drewN ?_ _ | refine blk_drew ?_ | refine blk_alloc ?_ _)); exact BK324.out⟩, ⟨by (with_reducible repeat (first | refine blk_drewN ?_ _ | refine blk_drew ?_ | refine blk_alloc ?_ _)); exact BK333.out⟩, ⟨by repeat (first | (with_reducible first | exact HB.out | apply below_alloc | apply pw_below_drewN | apply below_drew1 | refine below_set ?_ GE324.out | refine below_set ?_ GE333.out) | exact HB.out)⟩⟩
                                  · rw [if_neg c45] at H
                                    have c45b0 : ((t317.length : Int) == (t326.length : Int)) = false := beq_eq_false_iff_ne.mpr c45
                                    have c45b1 : ((t317.length : Int) != (t326.length : Int)) = true := bne_iff_ne.mpr c45
                                    have c45b2 : (t317.length == t326.length) = false := by first | simpa using c45 | (simp at c45 ⊢; omega)
                                    have H' := Aside0.mk H
                                    clear H
                                    have hnb49 := NB324_333.out
                                    have hnc49 := NB333_324.out
                                    have hcz50_0 : wc.cell? ⟨gb324, 0, none⟩ = some (.string t316) := (blk_cell BK324.out 0).trans rfl
                                    have hcz50_1 : wc.cell? ⟨gb324, 1, none⟩ = some (.slice Ao29 t317.length co29) := (blk_cell BK324.out 1).trans rfl
                                    have hcz50_2 : wc.cell? ⟨gb324, 2, none⟩ = some (.slice Ao30 t320.length co30) := (blk_cell BK324.out 2).trans rfl
                                    have hfz50_0 := blk_frozen BK324.out 0
                                    have hfz50_1 := blk_frozen BK324.out 1
                                    have hfz50_2 := blk_frozen BK324.out 2
                                    have hcz51_0 : wc.cell? ⟨gb333, 0, none⟩ = some (.string t325) := (blk_cell BK333.out 0).trans rfl
                                    have hcz51_1 : wc.cell? ⟨gb333, 1, none⟩ = some (.slice Ao36 t326.length co36) := (blk_cell BK333.out 1).trans rfl
                                    have hcz51_2 : wc.cell? ⟨gb333, 2, none⟩ = some (.slice Ao37 t329.length co37) := (blk_cell BK333.out 2).trans rfl
                                    have hfz51_0 := blk_frozen BK333.out 0
                                    have hfz51_1 := blk_frozen BK333.out 1
                                    have hfz51_2 := blk_frozen BK333.out 2
                                    go_wp2
                                    repeat (go_quiet (fail); try go_wp2)
                                    go_meet
                                    case rel => exact ⟨_, (true), (by first | rfl | (simp; done) | (simp [*]; done)), H', ⟨by have := HJ2.out; have := HJ8.out; have := HJ20.out; first | omega | exact Nat.le_refl _⟩, ⟨by (with_reducible repeat (first | apply Kd.R_alloc | apply Kd.R_drewN | apply Kd.R_drew)); exact HO_325001.out⟩, ⟨by (with_reducible repeat (first | apply Kd.R_alloc | apply Kd.R_drewN | apply Kd.R_drew)); exact HO_325002.out⟩, ⟨by (with_reducible repeat (first | apply Kd.R_alloc | apply Kd.R_drewN | apply Kd.R_drew)); exact HO_334001.out⟩, ⟨by (with_reducible repeat (first | apply Kd.R_alloc | apply Kd.R_drewN | apply Kd.R_drew)); exact HO_334002.out⟩, ⟨by (with_reducible repeat (first | refine blk_drewN ?_ _ | refine blk_drew ?_ | refine blk_alloc ?_ _)); exact BK324.out⟩, ⟨by (with_reducible repeat (first | refine blk_drewN ?_ _ | refine blk_drew ?_ | refine blk_alloc ?_ _)); exact BK333.out⟩, ⟨by repeat (first | (with_reducible first | exact HB.out | apply below_alloc | apply pw_below_drewN | apply below_drew1 | refine below_set ?_ GE324.out | refine below_set ?_ GE333.out) | exact HB.out)⟩⟩
                                · rw [if_neg c44] at H
                                  have c44b0 : ((t316.size : Int) == (t325.size : Int)) = false := beq_eq_false_iff_ne.mpr c44
                                  have c44b1 : ((t316.size : Int) != (t325.size : Int)) = true := bne_iff_ne.mpr c44
                                  have c44b2 : (t316.size == t325.size) = false := by first | simpa using c44 | (simp at c44 ⊢; omega)
                                  have H' := Aside0.mk H
                                  clear H
                                  have hnb52 := NB324_333.out
                                  have hnc52 := NB333_324.out
                                  have hcz53_0 : wc.cell? ⟨gb324, 0, none⟩ = some (.string t316) := (blk_cell BK324.out 0).trans rfl
                                  have hcz53_1 : wc.cell? ⟨gb324, 1, none⟩ = some (.slice Ao29 t317.length co29) := (blk_cell BK324.out 1).trans rfl
                                  have hcz53_2 : wc.cell? ⟨gb324, 2, none⟩ = some (.slice Ao30 t320.length co30) := (blk_cell BK324.out 2).trans rfl
                                  have hfz53_0 := blk_frozen BK324.out 0
                                  have hfz53_1 := blk_frozen BK324.out 1
                                  have hfz53_2 := blk_frozen BK324.out 2
                                  have hcz54_0 : wc.cell? ⟨gb333, 0, none⟩ = some (.string t325) := (blk_cell BK333.out 0).trans rfl
                                  have hcz54_1 : wc.cell? ⟨gb333, 1, none⟩ = some (.slice Ao36 t326.length co36) := (blk_cell BK333.out 1).trans rfl
                                  have hcz54_2 : wc.cell? ⟨gb333, 2, none⟩ = some (.slice Ao37 t329.length co37) := (blk_cell BK333.out 2).trans rfl
                                  have hfz54_0 := blk_frozen BK333.out 0
                                  have hfz54_1 := blk_frozen BK333.out 1
                                  have hfz54_2 := blk_frozen BK333.out 2
                                  go_wp2
                                  repeat (go_quiet (fail); try go_wp2)
                                  go_meet
                                  case rel => exact ⟨_, (true), (by first | rfl | (simp; done) | (simp [*]; done)), H', ⟨by have := HJ2.out; have := HJ8.out; have := HJ20.out; first | omega | exact Nat.le_refl _⟩, ⟨by (with_reducible repeat (first | apply Kd.R_alloc | apply Kd.R_drewN | apply Kd.R_drew)); exact HO_325001.out⟩, ⟨by (with_reducible repeat (first | apply Kd.R_alloc | apply Kd.R_drewN | apply Kd.R_drew)); exact HO_325002.out⟩, ⟨by (with_reducible repeat (first | apply Kd.R_alloc | apply Kd.R_drewN | apply Kd.R_drew)); exact HO_334001.out⟩, ⟨by (with_reducible repeat (first | apply Kd.R_alloc | apply Kd.R_drewN | apply Kd.R_drew)); exact HO_334002.out⟩, ⟨by (with_reducible repeat (first | refine blk_drewN ?_ _ | refine blk_drew ?_ | refine blk_alloc ?_ _)); exact BK324.out⟩, ⟨by (with_reducible repeat (first | refine blk_drewN ?_ _ | refine blk_drew ?_ | refine blk_alloc ?_ _)); exact BK333.out⟩, ⟨by repeat (first | (with_reducible first | exact HB.out | apply below_alloc | apply pw_below_drewN | apply below_drew1 | refine below_set ?_ GE324.out | refine below_set ?_ GE333.out) | exact HB.out)⟩⟩
                            case rest =>
                              clear HC42
                              try clear c1
                              try clear c2
                              try clear p2
                              try clear q2
                              try clear c3
                              try clear c4
                              try clear c5
                              try clear c6
                              try clear p6
                              try clear c10
                              try clear c10b0
                              try clear c11
                              try clear c11b0
                              try clear c11b1
                              try clear c11b2
                              try clear c13
                              try clear c13b0
                              try clear c13b1
                              try clear c14
                              try clear c14b0
                              try clear c14b1
                              try clear c15
                              try clear c16
                              try clear c16b0
                              try clear c17
                              try clear c17b0
                              try clear c18
                              try clear c22
                              try clear q22
                              try clear q24
                              try clear c34
                              try clear c38
                              try clear c38b0
                              try clear c38b1
                              try clear c39
                              try clear c43
                              try clear c43b0
                              try clear c43b1
                              try clear c43b2
                              try clear c44
                              try clear c44b0
                              try clear c44b1
                              try clear c44b2
                              try clear c45
                              try clear c45b0
                              try clear c45b1
                              try clear c45b2
                              try clear c46
                              try clear c49
                              try clear c52
                              try clear hcz28_0
                              try clear hcz28_1
                              try clear hcz28_2
                              try clear hcz35_0
                              try clear hcz35_1
                              try clear hcz35_2
                              try clear hcz47_0
                              try clear hcz47_1
                              try clear hcz47_2
                              try clear hcz48_0
                              try clear hcz48_1
                              try clear hcz48_2
                              try clear hcz50_0
                              try clear hcz50_1
                              try clear hcz50_2
                              try clear hcz51_0
                              try clear hcz51_1
                              try clear hcz51_2
                              try clear hcz53_0
                              try clear hcz53_1
                              try clear hcz53_2
                              try clear hcz54_0
                              try clear hcz54_1
                              try clear hcz54_2
                              try clear hfz28_0
                              try clear hfz28_1
                              try clear hfz28_2
                              try clear hfz35_0
                              try clear hfz35_1
                              try clear hfz35_2
                              try clear hfz47_0
                              try clear hfz47_1
                              try clear hfz47_2
                              try clear hfz48_0
                              try clear hfz48_1
                              try clear hfz48_2
                              try clear hfz50_0
                              try clear hfz50_1
                              try clear hfz50_2
                              try clear hfz51_0
                              try clear hfz51_1
                              try clear hfz51_2
                              try clear hfz53_0
                              try clear hfz53_1
                              try clear hfz53_2
                              try clear hfz54_0
                              try clear hfz54_1
                              try clear hfz54_2
                              try clear p2
                              try clear p6
                              try clear q022
                              try clear q2
                              try clear q22
                              try clear q24
                              obtain ⟨kq, x90_41, rfl, HA, HJ41, HO_325001, HO_325002, HO_334001, HO_334002, BK324, BK333, HB⟩ := hcut
                              cases kq with
                              | zero => exact absurd HA.out (by simp [cotterlaw07_LinkOrder.j3])
                              | succ kj41 =>
                                have H := HA.out
                                clear HA
                                simp only [cotterlaw07_LinkOrder.j3] at H
                                by_cases c55 : x90_41 = true
                                · subst c55
                                  have H1 : (some false) = some r := by rw [if_pos rfl] at H; exact H
                                  clear H
                                  have H := H1
                                  clear H1
                                  obtain rfl := Option.some.inj H
                                  go_wp2
                                  repeat (go_quiet (fail); try go_wp2)
                                  go_ret
                                  exact ⟨by first | rfl | (simp [errW_none, errW_some] <;> rfl) | (simp only [← hji12]; first | rfl | (simp [errW_none, errW_some] <;> rfl)) | (simp [*, errW_none, errW_some] <;> rfl), by repeat (first | (with_reducible first | exact HB.out | apply below_alloc | apply pw_below_drewN | apply below_drew1 | refine below_set ?_ GE324.out | refine below_set ?_ GE333.out) | exact HB.out)⟩
                                · replace c55 := Bool.eq_false_iff.mpr c55
                                  subst c55
                                  have H1 : (cotterlaw07_LinkOrder.l0 kj41 0 t316 t317 t320 t325 t326 t329) = some r := by rw [if_neg (show ¬ (false = true) by decide)] at H; exact H
                                  clear H
                                  have H := H1
                                  clear H1
                                  have H' := Aside0.mk H
                                  clear H
                                  go_wp2
                                  repeat (go_quiet (fail); try go_wp2)
                                  go_loopg [11] kj41 (fun kq v11 w' => ∃ (x11_5 : Int), v11 = .int .i64 x11_5 ∧ Aside0 (cotterlaw07_LinkOrder.l0 kq x11_5 t316 t317 t320 t325 t326 t329 = some r) ∧ Aside0 (kq ≤ kj41) ∧ Aside0 (Kd.R (Kd.int .i64) 2 w' w.heap.size (fun k_ => (w.heap.size ≤ k_) ∧ some k_ ≠ ((.slice Ao36 t326.length co36) : Value).ownBlock) (.slice Ao29 t317.length co29) t317) ∧ Aside0 (Kd.R k36 36 w' w.heap.size (fun k_ => (w.heap.size ≤ k_) ∧ some k_ ≠ ((.slice Ao37 t329.length co37) : Value).ownBlock) (.slice Ao30 t320.length co30) t320) ∧ Aside0 (Kd.R (Kd.int .i64) 2 w' w.heap.size (fun k_ => (w.heap.size ≤ k_) ∧ some k_ ≠ ((.slice Ao29 t317.length co29) : Value).ownBlock) (.slice Ao36 t326.length co36) t326) ∧ Aside0 (Kd.R k36 36 w' w.heap.size (fun k_ => (w.heap.size ≤ k_) ∧ some k_ ≠ ((.slice Ao30 t320.length co30) : Value).ownBlock) (.slice Ao37 t329.length co37) t329) ∧ Aside0 (w'.heap[gb324]? = some (.cells #[.string t316, (.slice Ao29 t317.length co29), (.slice Ao30 t320.length co30)] 29 (0, 0))) ∧ Aside0 (w'.heap[gb333]? = some (.cells #[.string t325, (.slice Ao36 t326.length co36), (.slice Ao37 t329.length co37)] 29 (0, 0))) ∧ Aside0 (Below w.heap.size w w'))
                                  case atStart => exact ⟨(0), (by first | rfl | (simp; done) | (simp [*]; done)), H', ⟨Nat.le_refl _⟩, ⟨by (with_reducible repeat (first | apply Kd.R_alloc | apply Kd.R_drewN | apply Kd.R_drew)); exact HO_325001.out⟩, ⟨by (with_reducible repeat (first | apply Kd.R_alloc | apply Kd.R_drewN | apply Kd.R_drew)); exact HO_325002.out⟩, ⟨by (with_reducible repeat (first | apply Kd.R_alloc | apply Kd.R_drewN | apply Kd.R_drew)); exact HO_334001.out⟩, ⟨by (with_reducible repeat (first | apply Kd.R_alloc | apply Kd.R_drewN | apply Kd.R_drew)); exact HO_334002.out⟩, ⟨by (with_reducible repeat (first | refine blk_drewN ?_ _ | refine blk_drew ?_ | refine blk_alloc ?_ _)); exact BK324.out⟩, ⟨by (with_reducible repeat (first | refine blk_drewN ?_ _ | refine blk_drew ?_ | refine blk_alloc ?_ _)); exact BK333.out⟩, ⟨by repeat (first | (with_reducible first | exact HB.out | apply below_alloc | apply pw_below_drewN | apply below_drew1 | refine below_set ?_ GE324.out | refine below_set ?_ GE333.out) | exact HB.out)⟩⟩
                                  case round =>
                                    clear H'
                                    try clear c1
                                    try clear c2
                                    try clear p2
                                    try clear q2
                                    try clear c3
                                    try clear c4
                                    try clear c5
                                    try clear c6
                                    try clear p6
                                    try clear c10
                                    try clear c10b0
                                    try clear c11
                                    try clear c11b0
                                    try clear c11b1
                                    try clear c11b2
                                    try clear c13
                                    try clear c13b0
                                    try clear c13b1
                                    try clear c14
                                    try clear c14b0
                                    try clear c14b1
                                    try clear c15
                                    try clear c16
                                    try clear c16b0
                                    try clear c17
                                    try clear c17b0
                                    try clear c18
                                    try clear c22
                                    try clear q22
                                    try clear q24
                                    try clear c34
                                    try clear c38
                                    try clear c38b0
                                    try clear c38b1
                                    try clear c39
                                    try clear c43
                                    try clear c43b0
                                    try clear c43b1
                                    try clear c43b2
                                    try clear c44
                                    try clear c44b0
                                    try clear c44b1
                                    try clear c44b2
                                    try clear c45
                                    try clear c45b0
                                    try clear c45b1
                                    try clear c45b2
                                    try clear c46
                                    try clear c49
                                    try clear c52
                                    try clear c55
                                    try clear hcz28_0
                                    try clear hcz28_1
                                    try clear hcz28_2
                                    try clear hcz35_0
                                    try clear hcz35_1
                                    try clear hcz35_2
                                    try clear hcz47_0
                                    try clear hcz47_1
                                    try clear hcz47_2
                                    try clear hcz48_0
                                    try clear hcz48_1
                                    try clear hcz48_2
                                    try clear hcz50_0
                                    try clear hcz50_1
                                    try clear hcz50_2
                                    try clear hcz51_0
                                    try clear hcz51_1
                                    try clear hcz51_2
                                    try clear hcz53_0
                                    try clear hcz53_1
                                    try clear hcz53_2
                                    try clear hcz54_0
                                    try clear hcz54_1
                                    try clear hcz54_2
                                    try clear hfz28_0
                                    try clear hfz28_1
                                    try clear hfz28_2
                                    try clear hfz35_0
                                    try clear hfz35_1
                                    try clear hfz35_2
                                    try clear hfz47_0
                                    try clear hfz47_1
                                    try clear hfz47_2
                                    try clear hfz48_0
                                    try clear hfz48_1
                                    try clear hfz48_2
                                    try clear hfz50_0
                                    try clear hfz50_1
                                    try clear hfz50_2
                                    try clear hfz51_0
                                    try clear hfz51_1
                                    try clear hfz51_2
                                    try clear hfz53_0
                                    try clear hfz53_1
                                    try clear hfz53_2
                                    try clear hfz54_0
                                    try clear hfz54_1
                                    try clear hfz54_2
                                    try clear p2
                                    try clear p6
                                    try clear q022
                                    try clear q2
                                    try clear q22
                                    try clear q24
                                    obtain ⟨x11_5, rfl, HA, HK5, HO_325001, HO_325002, HO_334001, HO_334002, BK324, BK333, HB⟩ := hrel
                                    cases gk with
                                    | zero => exact absurd HA.out (by simp [cotterlaw07_LinkOrder.l0])
                                    | succ k5 =>
                                      have H := HA.out
                                      clear HA
                                      simp only [cotterlaw07_LinkOrder.l0] at H
                                      by_cases c56 : x11_5 < (t320.length : Int)
                                      · rw [if_pos c56] at H
                                        have c56b0 : decide (x11_5 < (t320.length : Int)) = true := decide_eq_true c56
                                        clear c56
                                        have H' := Aside0.mk H
                                        clear H
                                        have hnb57 := NB324_333.out
                                        have hnc57 := NB333_324.out
                                        have hcz58_0 : wr.cell? ⟨gb324, 0, none⟩ = some (.string t316) := (blk_cell BK324.out 0).trans rfl
                                        have hcz58_1 : wr.cell? ⟨gb324, 1, none⟩ = some (.slice Ao29 t317.length co29) := (blk_cell BK324.out 1).trans rfl
                                        have hcz58_2 : wr.cell? ⟨gb324, 2, none⟩ = some (.slice Ao30 t320.length co30) := (blk_cell BK324.out 2).trans rfl
                                        have hfz58_0 := blk_frozen BK324.out 0
                                        have hfz58_1 := blk_frozen BK324.out 1
                                        have hfz58_2 := blk_frozen BK324.out 2
                                        go_wp2
                                        repeat (go_quiet (fail); try go_wp2)
                                        go_loopg [12, 13] k5 (fun kq v12 v13 w' => ∃ (x12_6 : Bool) (x13_6 : Int), v12 = .bool x12_6 ∧ v13 = .int .i64 x13_6 ∧ Aside0 (cotterlaw07_LinkOrder.l1 kq x11_5 x12_6 x13_6 t316 t317 t320 t325 t326 t329 = some r) ∧ Aside0 (kq ≤ k5) ∧ Aside0 (Kd.R (Kd.int .i64) 2 w' w.heap.size (fun k_ => (w.heap.size ≤ k_) ∧ some k_ ≠ ((.slice Ao36 t326.length co36) : Value).ownBlock) (.slice Ao29 t317.length co29) t317) ∧ Aside0 (Kd.R k36 36 w' w.heap.size (fun k_ => (w.heap.size ≤ k_) ∧ some k_ ≠ ((.slice Ao37 t329.length co37) : Value).ownBlock) (.slice Ao30 t320.length co30) t320) ∧ Aside0 (Kd.R (Kd.int .i64) 2 w' w.heap.size (fun k_ => (w.heap.size ≤ k_) ∧ some k_ ≠ ((.slice Ao29 t317.length co29) : Value).ownBlock) (.slice Ao36 t326.length co36) t326) ∧ Aside0 (Kd.R k36 36 w' w.heap.size (fun k_ => (w.heap.size ≤ k_) ∧ some k_ ≠ ((.slice Ao30 t320.length co30) : Value).ownBlock) (.slice Ao37 t329.length co37) t329) ∧ Aside0 (w'.heap[gb324]? = some (.cells #[.string t316, (.slice Ao29 t317.length co29), (.slice Ao30 t320.length co30)] 29 (0, 0))) ∧ Aside0 (w'.heap[gb333]? = some (.cells #[.string t325, (.slice Ao36 t326.length co36), (.slice Ao37 t329.length co37)] 29 (0, 0))) ∧ Aside0 (Below w.heap.size w w'))
                                        case atStart => exact ⟨(false), (0), (by first | rfl | (simp; done) | (simp [*]; done)), (by first | rfl | (simp; done) | (simp [*]; done)), H', ⟨Nat.le_refl _⟩, ⟨by (with_reducible repeat (first | apply Kd.R_alloc | apply Kd.R_drewN | apply Kd.R_drew)); exact HO_325001.out⟩, ⟨by (with_reducible repeat (first | apply Kd.R_alloc | apply Kd.R_drewN | apply Kd.R_drew)); exact HO_325002.out⟩, ⟨by (with_reducible repeat (first | apply Kd.R_alloc | apply Kd.R_drewN | apply Kd.R_drew)); exact HO_334001.out⟩, ⟨by (with_reducible repeat (first | apply Kd.R_alloc | apply Kd.R_drewN | apply Kd.R_drew)); exact HO_334002.out⟩, ⟨by (with_reducible repeat (first | refine blk_drewN ?_ _ | refine blk_drew ?_ | refine blk_alloc ?_ _)); exact BK324.out⟩, ⟨by (with_reducible repeat (first | refine blk_drewN ?_ _ | refine blk_drew ?_ | refine blk_alloc ?_ _)); exact BK333.out⟩, ⟨by repeat (first | (with_reducible first | exact HB.out | apply below_alloc | apply pw_below_drewN | apply below_drew1 | refine below_set ?_ GE324.out | refine below_set ?_ GE333.out) | exact HB.out)⟩⟩
                                        case round =>
                                          clear H'
                                          try clear c1
                                          try clear c2
                                          try clear p2
                                          try clear q2
                                          try clear c3
                                          try clear c4
                                          try clear c5
                                          try clear c6
                                          try clear p6
                                          try clear c10
                                          try clear c10b0
                                          try clear c11
                                          try clear c11b0
                                          try clear c11b1
                                          try clear c11b2
                                          try clear c13
                                          try clear c13b0
                                          try clear c13b1
                                          try clear c14
                                          try clear c14b0
                                          try clear c14b1
                                          try clear c15
                                          try clear c16
                                          try clear c16b0
                                          try clear c17
                                          try clear c17b0
                                          try clear c18
                                          try clear c22
                                          try clear q22
                                          try clear q24
                                          try clear c34
                                          try clear c38
                                          try clear c38b0
                                          try clear c38b1
                                          try clear c39
                                          try clear c43
                                          try clear c43b0
                                          try clear c43b1
                                          try clear c43b2
                                          try clear c44
                                          try clear c44b0
                                          try clear c44b1
                                          try clear c44b2
                                          try clear c45
                                          try clear c45b0
                                          try clear c45b1
                                          try clear c45b2
                                          try clear c46
                                          try clear c49
                                          try clear c52
                                          try clear c55
                                          try clear c56
                                          try clear c56b0
                                          try clear c57
                                          try clear hcz28_0
                                          try clear hcz28_1
                                          try clear hcz28_2
                                          try clear hcz35_0
                                          try clear hcz35_1
                                          try clear hcz35_2
                                          try clear hcz47_0
                                          try clear hcz47_1
                                          try clear hcz47_2
                                          try clear hcz48_0
                                          try clear hcz48_1
                                          try clear hcz48_2
                                          try clear hcz50_0
                                          try clear hcz50_1
                                          try clear hcz50_2
                                          try clear hcz51_0
                                          try clear hcz51_1
                                          try clear hcz51_2
                                          try clear hcz53_0
                                          try clear hcz53_1
                                          try clear hcz53_2
                                          try clear hcz54_0
                                          try clear hcz54_1
                                          try clear hcz54_2
                                          try clear hcz58_0
                                          try clear hcz58_1
                                          try clear hcz58_2
                                          try clear hfz28_0
                                          try clear hfz28_1
                                          try clear hfz28_2
                                          try clear hfz35_0
                                          try clear hfz35_1
                                          try clear hfz35_2
                                          try clear hfz47_0
                                          try clear hfz47_1
                                          try clear hfz47_2
                                          try clear hfz48_0
                                          try clear hfz48_1
                                          try clear hfz48_2
                                          try clear hfz50_0
                                          try clear hfz50_1
                                          try clear hfz50_2
                                          try clear hfz51_0
                                          try clear hfz51_1
                                          try clear hfz51_2
                                          try clear hfz53_0
                                          try clear hfz53_1
                                          try clear hfz53_2
                                          try clear hfz54_0
                                          try clear hfz54_1
                                          try clear hfz54_2
                                          try clear hfz58_0
                                          try clear hfz58_1
                                          try clear hfz58_2
                                          try clear p2
                                          try clear p6
                                          try clear q022
                                          try clear q2
                                          try clear q22
                                          try clear q24
                                          obtain ⟨x12_6, x13_6, rfl, rfl, HA, HK6, HO_325001, HO_325002, HO_334001, HO_334002, BK324, BK333, HB⟩ := hrel
                                          cases gk with
                                          | zero => exact absurd HA.out (by simp [cotterlaw07_LinkOrder.l1])
                                          | succ k6 =>
                                            have H := HA.out
                                            clear HA
                                            simp only [cotterlaw07_LinkOrder.l1] at H
                                            by_cases c59 : x13_6 < (t329.length : Int)
                                            · rw [if_pos c59] at H
                                              have c59b0 : decide (x13_6 < (t329.length : Int)) = true := decide_eq_true c59
                                              clear c59
                                              by_cases c60 : x12_6 = true
                                              · subst c60
                                                have H1 : (cotterlaw07_LinkOrder.l1 k6 x11_5 true (wrap64 (x13_6 + 1)) t316 t317 t320 t325 t326 t329) = some r := by rw [if_pos rfl] at H; exact H
                                                clear H
                                                have H := H1
                                                clear H1
                                                have H' := Aside0.mk H
                                                clear H
                                                have hnb61 := NB333_324.out
                                                have hnc61 := NB324_333.out
                                                have hcz62_0 : wr.cell? ⟨gb333, 0, none⟩ = some (.string t325) := (blk_cell BK333.out 0).trans rfl
                                                have hcz62_1 : wr.cell? ⟨gb333, 1, none⟩ = some (.slice Ao36 t326.length co36) := (blk_cell BK333.out 1).trans rfl
                                                have hcz62_2 : wr.cell? ⟨gb333, 2, none⟩ = some (.slice Ao37 t329.length co37) := (blk_cell BK333.out 2).trans rfl
                                                have hfz62_0 := blk_frozen BK333.out 0
                                                have hfz62_1 := blk_frozen BK333.out 1
                                                have hfz62_2 := blk_frozen BK333.out 2
                                                go_wp2
                                                repeat (go_quiet (fail); try go_wp2)
                                                go_roundg k6
                                                case measure => have := HJ2.out; have := HJ8.out; have := HJ20.out; have := HJ41.out; have := HK5.out; have := HK6.out; omega
                                                case rel => exact ⟨(true), (wrap64 (x13_6 + 1)), (by first | rfl | (simp; done) | (simp [*]; done)), (by first | rfl | (simp; done) | (simp [*]; done)), H', ⟨by have := HJ2.out; have := HJ8.out; have := HJ20.out; have := HJ41.out; have := HK5.out; have := HK6.out; omega⟩, ⟨by (with_reducible repeat (first | apply Kd.R_alloc | apply Kd.R_drewN | apply Kd.R_drew)); exact HO_325001.out⟩, ⟨by (with_reducible repeat (first | apply Kd.R_alloc | apply Kd.R_drewN | apply Kd.R_drew)); exact HO_325002.out⟩, ⟨by (with_reducible repeat (first | apply Kd.R_alloc | apply Kd.R_drewN | apply Kd.R_drew)); exact HO_334001.out⟩, ⟨by (with_reducible repeat (first | apply Kd.R_alloc | apply Kd.R_drewN | apply Kd.R_drew)); exact HO_334002.out⟩, ⟨by (with_reducible repeat (first | refine blk_drewN ?_ _ | refine blk_drew ?_ | refine blk_alloc ?_ _)); exact BK324.out⟩, ⟨by (with_reducible repeat (first | refine blk_drewN ?_ _ | refine blk_drew ?_ | refine blk_alloc ?_ _)); exact BK333.out⟩, ⟨by repeat (first | (with_reducible first | exact HB.out | apply below_alloc | apply pw_below_drewN | apply below_drew1 | refine below_set ?_ GE324.out | refine below_set ?_ GE333.out) | exact HB.out)⟩⟩
                                              · replace c60 := Bool.eq_false_iff.mpr c60
                                                subst c60
                                                have H1 : (if 0 ≤ x13_6 then (if 0 ≤ x11_5 then (if x11_5 < (t320.length : Int) then (if ((rd_T36 t329 x13_6).f0).toList = ((rd_T36 t320 x11_5).f0).toList then (cotterlaw07_LinkOrder.l1 k6 x11_5 (((rd_T36 t329 x13_6).f1) == ((rd_T36 t320 x11_5).f1)) (wrap64 (x13_6 + 1)) t316 t317 t320 t325 t326 t329) else (cotterlaw07_LinkOrder.l1 k6 x11_5 false (wrap64 (x13_6 + 1)) t316 t317 t320 t325 t326 t329)) else (none)) else (none)) else (none)) = some r := by rw [if_neg (show ¬ (false = true) by decide)] at H; exact H
                                                clear H
                                                have H := H1
                                                clear H1
                                                by_cases c63 : 0 ≤ x13_6
                                                · rw [if_pos c63] at H
                                                  have c63b0 : decide (0 ≤ x13_6) = true := decide_eq_true c63
                                                  clear c63
                                                  by_cases c64 : 0 ≤ x11_5
                                                  · rw [if_pos c64] at H
                                                    have c64b0 : decide (0 ≤ x11_5) = true := decide_eq_true c64
                                                    clear c64
                                                    by_cases c65 : x11_5 < (t320.length : Int)
                                                    · rw [if_pos c65] at H
                                                      have c65b0 : decide (x11_5 < (t320.length : Int)) = true := decide_eq_true c65
                                                      clear c65
                                                      by_cases c66 : ((rd_T36 t329 x13_6).f0).toList = ((rd_T36 t320 x11_5).f0).toList
                                                      · rw [if_pos c66] at H
                                                        have c66b0 : (((rd_T36 t329 x13_6).f0).toList == ((rd_T36 t320 x11_5).f0).toList) = true := beq_iff_eq.mpr c66
                                                        have c66b1 : (((rd_T36 t329 x13_6).f0).toList != ((rd_T36 t320 x11_5).f0).toList) = false := bne_eq_false_iff_eq.mpr c66
                                                        clear c66
                                                        have H' := Aside0.mk H
                                                        clear H
                                                        have hnb67 := NB333_324.out
                                                        have hnc67 := NB324_333.out
                                                        have hcz68_0 : wr.cell? ⟨gb333, 0, none⟩ = some (.string t325) := (blk_cell BK333.out 0).trans rfl
                                                        have hcz68_1 : wr.cell? ⟨gb333, 1, none⟩ = some (.slice Ao36 t326.length co36) := (blk_cell BK333.out 1).trans rfl
                                                        have hcz68_2 : wr.cell? ⟨gb333, 2, none⟩ = some (.slice Ao37 t329.length co37) := (blk_cell BK333.out 2).trans rfl
                                                        have hfz68_0 := blk_frozen BK333.out 0
                                                        have hfz68_1 := blk_frozen BK333.out 1
                                                        have hfz68_2 := blk_frozen BK333.out 2
                                                        have p336 : 0 ≤ (x13_6 : Int) := of_decide_eq_true (by first | (with_reducible assumption) | assumption)
                                                        have q336 : x13_6 < (t329.length : Int) := of_decide_eq_true (by first | (with_reducible assumption) | assumption)
                                                        obtain ⟨ad336, e336, hx336_0, hx336_1, hx336_2⟩ := at_T36 (Kd.R_reads' HO_334002.out).2.2 x13_6 p336 q336
                                                        cases e336
                                                        replace p336 := eq_true p336
                                                        replace q336 := eq_true q336
                                                        have hcz69_0 : wr.cell? ⟨gb324, 0, none⟩ = some (.string t316) := (blk_cell BK324.out 0).trans rfl
                                                        have hcz69_1 : wr.cell? ⟨gb324, 1, none⟩ = some (.slice Ao29 t317.length co29) := (blk_cell BK324.out 1).trans rfl
                                                        have hcz69_2 : wr.cell? ⟨gb324, 2, none⟩ = some (.slice Ao30 t320.length co30) := (blk_cell BK324.out 2).trans rfl
                                                        have hfz69_0 := blk_frozen BK324.out 0
                                                        have hfz69_1 := blk_frozen BK324.out 1
                                                        have hfz69_2 := blk_frozen BK324.out 2
                                                        have p337 : 0 ≤ (x11_5 : Int) := of_decide_eq_true (by first | (with_reducible assumption) | assumption)
                                                        have q337 : x11_5 < (t320.length : Int) := of_decide_eq_true (by first | (with_reducible assumption) | assumption)
                                                        obtain ⟨ad337, e337, hx337_0, hx337_1, hx337_2⟩ := at_T36 (Kd.R_reads' HO_325002.out).2.2 x11_5 p337 q337
                                                        cases e337
                                                        replace p337 := eq_true p337
                                                        replace q337 := eq_true q337
                                                        have p338 : 0 ≤ (x13_6 : Int) := of_decide_eq_true (by first | (with_reducible assumption) | assumption)
                                                        have q338 : x13_6 < (t329.length : Int) := of_decide_eq_true (by first | (with_reducible assumption) | assumption)
                                                        obtain ⟨ad338, e338, hx338_0, hx338_1, hx338_2⟩ := at_T36 (Kd.R_reads' HO_334002.out).2.2 x13_6 p338 q338
                                                        obtain rfl : ad336 = ad338 := (by injection e338)
                                                        replace p338 := eq_true p338
                                                        replace q338 := eq_true q338
                                                        have p339 : 0 ≤ (x11_5 : Int) := of_decide_eq_true (by first | (with_reducible assumption) | assumption)
                                                        have q339 : x11_5 < (t320.length : Int) := of_decide_eq_true (by first | (with_reducible assumption) | assumption)
                                                        obtain ⟨ad339, e339, hx339_0, hx339_1, hx339_2⟩ := at_T36 (Kd.R_reads' HO_325002.out).2.2 x11_5 p339 q339
                                                        obtain rfl : ad337 = ad339 := (by injection e339)
                                                        replace p339 := eq_true p339
                                                        replace q339 := eq_true q339
                                                        go_wp2
                                                        repeat (go_quiet (fail); try go_wp2)
                                                        go_roundg k6
                                                        case measure => have := HJ2.out; have := HJ8.out; have := HJ20.out; have := HJ41.out; have := HK5.out; have := HK6.out; omega
                                                        case rel => exact ⟨((((rd_T36 t329 x13_6).f1) == ((rd_T36 t320 x11_5).f1))), (wrap64 (x13_6 + 1)), (by first | rfl | (simp; done) | (simp [*]; done)), (by first | rfl | (simp; done) | (simp [*]; done)), H', ⟨by have := HJ2.out; have := HJ8.out; have := HJ20.out; have := HJ41.out; have := HK5.out; have := HK6.out; omega⟩, ⟨by (with_reducible repeat (first | apply Kd.R_alloc | apply Kd.R_drewN | apply Kd.R_drew)); exact HO_325001.out⟩, ⟨by (with_reducible repeat (first | apply Kd.R_alloc | apply Kd.R_drewN | apply Kd.R_drew)); exact HO_325002.out⟩, ⟨by (with_reducible repeat (first | apply Kd.R_alloc | apply Kd.R_drewN | apply Kd.R_drew)); exact HO_334001.out⟩, ⟨by (with_reducible repeat (first | apply Kd.R_alloc | apply Kd.R_drewN | apply Kd.R_drew)); exact HO_334002.out⟩, ⟨by (with_reducible repeat (first | refine blk_drewN ?_ _ | refine blk_drew ?_ | refine blk_alloc ?_ _)); exact BK324.out⟩, ⟨by (with_reducible repeat (first | refine blk_drewN ?_ _ | refine blk_drew ?_ | refine blk_alloc ?_ _)); exact BK333.out⟩, ⟨by repeat (first | (with_reducible first | exact HB.out | apply below_alloc | apply pw_below_drewN | apply below_drew1 | refine below_set ?_ GE324.out | refine below_set ?_ GE333.out) | exact HB.out)⟩⟩
                                                      · rw [if_neg c66] at H
                                                        have c66b0 : (((rd_T36 t329 x13_6).f0).toList == ((rd_T36 t320 x11_5).f0).toList) = false := beq_eq_false_iff_ne.mpr c66
                                                        have c66b1 : (((rd_T36 t329 x13_6).f0).toList != ((rd_T36 t320 x11_5).f0).toList) = true := bne_iff_ne.mpr c66
                                                        have H' := Aside0.mk H
                                                        clear H
                                                        have hnb70 := NB333_324.out
                                                        have hnc70 := NB324_333.out
                                                        have hcz71_0 : wr.cell? ⟨gb333, 0, none⟩ = some (.string t325) := (blk_cell BK333.out 0).trans rfl
                                                        have hcz71_1 : wr.cell? ⟨gb333, 1, none⟩ = some (.slice Ao36 t326.length co36) := (blk_cell BK333.out 1).trans rfl
                                                        have hcz71_2 : wr.cell? ⟨gb333, 2, none⟩ = some (.slice Ao37 t329.length co37) := (blk_cell BK333.out 2).trans rfl
                                                        have hfz71_0 := blk_frozen BK333.out 0
                                                        have hfz71_1 := blk_frozen BK333.out 1
                                                        have hfz71_2 := blk_frozen BK333.out 2
                                                        have p336 : 0 ≤ (x13_6 : Int) := of_decide_eq_true (by first | (with_reducible assumption) | assumption)
                                                        have q336 : x13_6 < (t329.length : Int) := of_decide_eq_true (by first | (with_reducible assumption) | assumption)
                                                        obtain ⟨ad336, e336, hx336_0, hx336_1, hx336_2⟩ := at_T36 (Kd.R_reads' HO_334002.out).2.2 x13_6 p336 q336
                                                        cases e336
                                                        replace p336 := eq_true p336
                                                        replace q336 := eq_true q336
                                                        have hcz72_0 : wr.cell? ⟨gb324, 0, none⟩ = some (.string t316) := (blk_cell BK324.out 0).trans rfl
                                                        have hcz72_1 : wr.cell? ⟨gb324, 1, none⟩ = some (.slice Ao29 t317.length co29) := (blk_cell BK324.out 1).trans rfl
                                                        have hcz72_2 : wr.cell? ⟨gb324, 2, none⟩ = some (.slice Ao30 t320.length co30) := (blk_cell BK324.out 2).trans rfl
                                                        have hfz72_0 := blk_frozen BK324.out 0
                                                        have hfz72_1 := blk_frozen BK324.out 1
                                                        have hfz72_2 := blk_frozen BK324.out 2
                                                        have p337 : 0 ≤ (x11_5 : Int) := of_decide_eq_true (by first | (with_reducible assumption) | assumption)
                                                        have q337 : x11_5 < (t320.length : Int) := of_decide_eq_true (by first | (with_reducible assumption) | assumption)
                                                        obtain ⟨ad337, e337, hx337_0, hx337_1, hx337_2⟩ := at_T36 (Kd.R_reads' HO_325002.out).2.2 x11_5 p337 q337
                                                        cases e337
                                                        replace p337 := eq_true p337
                                                        replace q337 := eq_true q337
                                                        go_wp2
                                                        repeat (go_quiet (fail); try go_wp2)
                                                        go_roundg k6
                                                        case measure => have := HJ2.out; have := HJ8.out; have := HJ20.out; have := HJ41.out; have := HK5.out; have := HK6.out; omega
                                                        case rel => exact ⟨(false), (wrap64 (x13_6 + 1)), (by first | rfl | (simp; done) | (simp [*]; done)), (by first | rfl | (simp; done) | (simp [*]; done)), H', ⟨by have := HJ2.out; have := HJ8.out; have := HJ20.out; have := HJ41.out; have := HK5.out; have := HK6.out; omega⟩, ⟨by (with_reducible repeat (first | apply Kd.R_alloc | apply Kd.R_drewN | apply Kd.R_drew)); exact HO_325001.out⟩, ⟨by (with_reducible repeat (first | apply Kd.R_alloc | apply Kd.R_drewN | apply Kd.R_drew)); exact HO_325002.out⟩, ⟨by (with_reducible repeat (first | apply Kd.R_alloc | apply Kd.R_drewN | apply Kd.R_drew)); exact HO_334001.out⟩, ⟨by (with_reducible repeat (first | apply Kd.R_alloc | apply Kd.R_drewN | apply Kd.R_drew)); exact HO_334002.out⟩, ⟨by (with_reducible repeat (first | refine blk_drewN ?_ _ | refine blk_drew ?_ | refine blk_alloc ?_ _)); exact BK324.out⟩, ⟨by (with_reducible repeat (first | refine blk_drewN ?_ _ | refine blk_drew ?_ | refine blk_alloc ?_ _)); exact BK333.out⟩, ⟨by repeat (first | (with_reducible first | exact HB.out | apply below_alloc | apply pw_below_drewN | apply below_drew1 | refine below_set ?_ GE324.out | refine below_set ?_ GE333.out) | exact HB.out)⟩⟩
                                                    · rw [if_neg c65] at H
                                                      exact absurd H (by simp)
                                                  · rw [if_neg c64] at H
                                                    exact absurd H (by simp)
                                                · rw [if_neg c63] at H
                                                  exact absurd H (by simp)
                                            · rw [if_neg c59] at H
                                              have c59b0 : decide (x13_6 < (t329.length : Int)) = false := decide_eq_false c59
                                              clear c59
                                              by_cases c73 : x12_6 = true
                                              · subst c73
                                                have H1 : (cotterlaw07_LinkOrder.l0 k6 (wrap64 (x11_5 + 1)) t316 t317 t320 t325 t326 t329) = some r := by rw [if_pos rfl] at H; exact H
                                                clear H
                                                have H := H1
                                                clear H1
                                                have H' := Aside0.mk H
                                                clear H
                                                have hnb74 := NB333_324.out
                                                have hnc74 := NB324_333.out
                                                have hcz75_0 : wr.cell? ⟨gb333, 0, none⟩ = some (.string t325) := (blk_cell BK333.out 0).trans rfl
                                                have hcz75_1 : wr.cell? ⟨gb333, 1, none⟩ = some (.slice Ao36 t326.length co36) := (blk_cell BK333.out 1).trans rfl
                                                have hcz75_2 : wr.cell? ⟨gb333, 2, none⟩ = some (.slice Ao37 t329.length co37) := (blk_cell BK333.out 2).trans rfl
                                                have hfz75_0 := blk_frozen BK333.out 0
                                                have hfz75_1 := blk_frozen BK333.out 1
                                                have hfz75_2 := blk_frozen BK333.out 2
                                                go_wp2
                                                repeat (go_quiet (fail); try go_wp2)
                                                go_roundg k6
                                                case measure => have := HJ2.out; have := HJ8.out; have := HJ20.out; have := HJ41.out; have := HK5.out; have := HK6.out; omega
                                                case rel => exact ⟨(wrap64 (x11_5 + 1)), (by first | rfl | (simp; done) | (simp [*]; done)), H', ⟨by have := HJ2.out; have := HJ8.out; have := HJ20.out; have := HJ41.out; have := HK5.out; have := HK6.out; omega⟩, ⟨by (with_reducible repeat (first | apply Kd.R_alloc | apply Kd.R_drewN | apply Kd.R_drew)); exact HO_325001.out⟩, ⟨by (with_reducible repeat (first | apply Kd.R_alloc | apply Kd.R_drewN | apply Kd.R_drew)); exact HO_325002.out⟩, ⟨by (with_reducible repeat (first | apply Kd.R_alloc | apply Kd.R_drewN | apply Kd.R_drew)); exact HO_334001.out⟩, ⟨by (with_reducible repeat (first | apply Kd.R_alloc | apply Kd.R_drewN | apply Kd.R_drew)); exact HO_334002.out⟩, ⟨by (with_reducible repeat (first | refine blk_drewN ?_ _ | refine blk_drew ?_ | refine blk_alloc ?_ _)); exact BK324.out⟩, ⟨by (with_reducible repeat (first | refine blk_drewN ?_ _ | refine blk_drew ?_ | refine blk_alloc ?_ _)); exact BK333.out⟩, ⟨by repeat (first | (with_reducible first | exact HB.out | apply below_alloc | apply pw_below_drewN | apply below_drew1 | refine below_set ?_ GE324.out | refine below_set ?_ GE333.out) | exact HB.out)⟩⟩
                                              · replace c73 := Bool.eq_false_iff.mpr c73
                                                subst c73
                                                have H1 : (some false) = some r := by rw [if_neg (show ¬ (false = true) by decide)] at H; exact H
                                                clear H
                                                have H := H1
                                                clear H1
                                                obtain rfl := Option.some.inj H
                                                have hnb76 := NB333_324.out
                                                have hnc76 := NB324_333.out
                                                have hcz77_0 : wr.cell? ⟨gb333, 0, none⟩ = some (.string t325) := (blk_cell BK333.out 0).trans rfl
                                                have hcz77_1 : wr.cell? ⟨gb333, 1, none⟩ = some (.slice Ao36 t326.length co36) := (blk_cell BK333.out 1).trans rfl
                                                have hcz77_2 : wr.cell? ⟨gb333, 2, none⟩ = some (.slice Ao37 t329.length co37) := (blk_cell BK333.out 2).trans rfl
                                                have hfz77_0 := blk_frozen BK333.out 0
                                                have hfz77_1 := blk_frozen BK333.out 1
                                                have hfz77_2 := blk_frozen BK333.out 2
                                                go_wp2
                                                repeat (go_quiet (fail); try go_wp2)
                                                go_ret
                                                exact ⟨by first | rfl | (simp [errW_none, errW_some] <;> rfl) | (simp only [← hji12]; first | rfl | (simp [errW_none, errW_some] <;> rfl)) | (simp [*, errW_none, errW_some] <;> rfl), by repeat (first | (with_reducible first | exact HB.out | apply below_alloc | apply pw_below_drewN | apply below_drew1 | refine below_set ?_ GE324.out | refine below_set ?_ GE333.out) | exact HB.out)⟩
                                      · rw [if_neg c56] at H
                                        have c56b0 : decide (x11_5 < (t320.length : Int)) = false := decide_eq_false c56
                                        clear c56
                                        replace H := Option.bind_eq_some_iff.mp H
                                        obtain ⟨t335, A780, H⟩ := H
                                        replace H : (some t335) = some r := H
                                        have A78 := Aside0.mk A780
                                        clear A780
                                        obtain rfl := Option.some.inj H
                                        have hnb79 := NB324_333.out
                                        have hnc79 := NB333_324.out
                                        have hcz80_0 : wr.cell? ⟨gb324, 0, none⟩ = some (.string t316) := (blk_cell BK324.out 0).trans rfl
                                        have hcz80_1 : wr.cell? ⟨gb324, 1, none⟩ = some (.slice Ao29 t317.length co29) := (blk_cell BK324.out 1).trans rfl
                                        have hcz80_2 : wr.cell? ⟨gb324, 2, none⟩ = some (.slice Ao30 t320.length co30) := (blk_cell BK324.out 2).trans rfl
                                        have hfz80_0 := blk_frozen BK324.out 0
                                        have hfz80_1 := blk_frozen BK324.out 1
                                        have hfz80_2 := blk_frozen BK324.out 2
                                        go_wp2_with (first | (go_at_call 10; (with_reducible refine (cotterlaw07_live.calls  t335 _ A78.out).mono ?_); rintro e w81 ⟨rfl, hb⟩; have n0_ := Aside0.mk (Kd.R_below (by (with_reducible repeat (first | apply Kd.R_alloc | apply Kd.R_drewN | apply Kd.R_drew)); exact HO_325001.out) hb); have n1_ := Aside0.mk (Kd.R_below (by (with_reducible repeat (first | apply Kd.R_alloc | apply Kd.R_drewN | apply Kd.R_drew)); exact HO_325002.out) hb); have n2_ := Aside0.mk (Kd.R_below (by (with_reducible repeat (first | apply Kd.R_alloc | apply Kd.R_drewN | apply Kd.R_drew)); exact HO_334001.out) hb); have n3_ := Aside0.mk (Kd.R_below (by (with_reducible repeat (first | apply Kd.R_alloc | apply Kd.R_drewN | apply Kd.R_drew)); exact HO_334002.out) hb); have n4_ := Aside0.mk (blk_below (g := gb324) (o := .cells #[.string t316, .slice Ao29 t317.length co29, .slice Ao30 t320.length co30] 29 (0, 0)) (by (with_reducible repeat (first | refine blk_drewN ?_ _ | refine blk_drew ?_ | refine blk_alloc ?_ _)); exact BK324.out) hb); have n5_ := Aside0.mk (blk_below (g := gb333) (o := .cells #[.string t325, .slice Ao36 t326.length co36, .slice Ao37 t329.length co37] 29 (0, 0)) (by (with_reducible repeat (first | refine blk_drewN ?_ _ | refine blk_drew ?_ | refine blk_alloc ?_ _)); exact BK333.out) hb); have n6_ := Aside0.mk (below_step (by repeat (first | (with_reducible first | exact HB.out | apply below_alloc | apply pw_below_drewN | apply below_drew1 | refine below_set ?_ GE324.out | refine below_set ?_ GE333.out) | exact HB.out)) hb); clear HO_325001; clear HO_325002; clear HO_334001; clear HO_334002; clear BK324; clear BK333; clear HB; have HO_325001 := n0_; have HO_325002 := n1_; have HO_334001 := n2_; have HO_334002 := n3_; have BK324 := n4_; have BK333 := n5_; have HB := n6_; clear n0_ n1_ n2_ n3_ n4_ n5_ n6_; (try clear hb); (try clear hb2); (try clear hk); (try clear hi)))
                                        repeat (go_quiet (first | (go_at_call 10; (with_reducible refine (cotterlaw07_live.calls  t335 _ A78.out).mono ?_); rintro e w81 ⟨rfl, hb⟩; have n0_ := Aside0.mk (Kd.R_below (by (with_reducible repeat (first | apply Kd.R_alloc | apply Kd.R_drewN | apply Kd.R_drew)); exact HO_325001.out) hb); have n1_ := Aside0.mk (Kd.R_below (by (with_reducible repeat (first | apply Kd.R_alloc | apply Kd.R_drewN | apply Kd.R_drew)); exact HO_325002.out) hb); have n2_ := Aside0.mk (Kd.R_below (by (with_reducible repeat (first | apply Kd.R_alloc | apply Kd.R_drewN | apply Kd.R_drew)); exact HO_334001.out) hb); have n3_ := Aside0.mk (Kd.R_below (by (with_reducible repeat (first | apply Kd.R_alloc | apply Kd.R_drewN | apply Kd.R_drew)); exact HO_334002.out) hb); have n4_ := Aside0.mk (blk_below (g := gb324) (o := .cells #[.string t316, .slice Ao29 t317.length co29, .slice Ao30 t320.length co30] 29 (0, 0)) (by (with_reducible repeat (first | refine blk_drewN ?_ _ | refine blk_drew ?_ | refine blk_alloc ?_ _)); exact BK324.out) hb); have n5_ := Aside0.mk (blk_below (g := gb333) (o := .cells #[.string t325, .slice Ao36 t326.length co36, .slice Ao37 t329.length co37] 29 (0, 0)) (by (with_reducible repeat (first | refine blk_drewN ?_ _ | refine blk_drew ?_ | refine blk_alloc ?_ _)); exact BK333.out) hb); have n6_ := Aside0.mk (below_step (by repeat (first | (with_reducible first | exact HB.out | apply below_alloc | apply pw_below_drewN | apply below_drew1 | refine below_set ?_ GE324.out | refine below_set ?_ GE333.out) | exact HB.out)) hb); clear HO_325001; clear HO_325002; clear HO_334001; clear HO_334002; clear BK324; clear BK333; clear HB; have HO_325001 := n0_; have HO_325002 := n1_; have HO_334001 := n2_; have HO_334002 := n3_; have BK324 := n4_; have BK333 := n5_; have HB := n6_; clear n0_ n1_ n2_ n3_ n4_ n5_ n6_; (try clear hb); (try clear hb2); (try clear hk); (try clear hi))); try go_wp2_with (first | (go_at_call 10; (with_reducible refine (cotterlaw07_live.calls  t335 _ A78.out).mono ?_); rintro e w81 ⟨rfl, hb⟩; have n0_ := Aside0.mk (Kd.R_below (by (with_reducible repeat (first | apply Kd.R_alloc | apply Kd.R_drewN | apply Kd.R_drew)); exact HO_325001.out) hb); have n1_ := Aside0.mk (Kd.R_below (by (with_reducible repeat (first | apply Kd.R_alloc | apply Kd.R_drewN | apply Kd.R_drew)); exact HO_325002.out) hb); have n2_ := Aside0.mk (Kd.R_below (by (with_reducible repeat (first | apply Kd.R_alloc | apply Kd.R_drewN | apply Kd.R_drew)); exact HO_334001.out) hb); have n3_ := Aside0.mk (Kd.R_below (by (with_reducible repeat (first | apply Kd.R_alloc | apply Kd.R_drewN | apply Kd.R_drew)); exact HO_334002.out) hb); have n4_ := Aside0.mk (blk_below (g := gb324) (o := .cells #[.string t316, .slice Ao29 t317.length co29, .slice Ao30 t320.length co30] 29 (0, 0)) (by (with_reducible repeat (first | refine blk_drewN ?_ _ | refine blk_drew ?_ | refine blk_alloc ?_ _)); exact BK324.out) hb); have n5_ := Aside0.mk (blk_below (g := gb333) (o := .cells #[.string t325, .slice Ao36 t326.length co36, .slice Ao37 t329.length co37] 29 (0, 0)) (by (with_reducible repeat (first | refine blk_drewN ?_ _ | refine blk_drew ?_ | refine blk_alloc ?_ _)); exact BK333.out) hb); have n6_ := Aside0.mk (below_step (by repeat (first | (with_reducible first | exact HB.out | apply below_alloc | apply pw_below_drewN | apply below_drew1 | refine below_set ?_ GE324.out | refine below_set ?_ GE333.out) | exact HB.out)) hb); clear HO_325001; clear HO_325002; clear HO_334001; clear HO_334002; clear BK324; clear BK333; clear HB; have HO_325001 := n0_; have HO_325002 := n1_; have HO_334001 := n2_; have HO_334002 := n3_; have BK324 := n4_; have BK333 := n5_; have HB := n6_; clear n0_ n1_ n2_ n3_ n4_ n5_ n6_; (try clear hb); (try clear hb2); (try clear hk); (try clear hi))))
                                        go_ret
                                        exact ⟨by first | rfl | (simp [errW_none, errW_some] <;> rfl) | (simp only [← hji12]; first | rfl | (simp [errW_none, errW_some] <;> rfl)) | (simp [*, errW_none, errW_some] <;> rfl), by repeat (first | (with_reducible first | exact HB.out | apply below_alloc | apply pw_below_drewN | apply below_drew1 | refine below_set ?_ GE324.out | refine below_set ?_ GE333.out) | exact HB.out)⟩
                    · rw [if_neg c18] at H
                      exact absurd H (by simp)
                  · rw [if_neg c15] at H
                    exact absurd H (by simp)
                · rw [if_neg c14] at H
                  exact absurd H (by simp)
              · rw [if_neg c13] at H
                exact absurd H (by simp)

end Go.Proofs.Yteaealmnmmcbpaa.M

