/-
  Texts of the proofs of LinkNames, cut to what the proofs reach and packed by a program of this session (wip/packs.py). Each part begins with what it says; conditions: those told there.
-/
import Derived.Test.YteaealmnmmcbpaaPIA8
import Derived.Test.YteaealmnmmcbpaaPIB5n1
-- Written by a program of this session (wip/ownprint.py) over the translation. Lean checks it.
namespace Go.Proofs.Yteaealmnmmcbpaa.M
open Go.RowKit Go.Proofs.YteaealmnmmcbpaaW.PrintWords Go.Proofs.YteaealmnmmcbpaaW.PrintLast Go.Proofs.YteaealmnmmcbpaaW.PrintMore
attribute [local go_sem] max2_int min2_int max_two min_two max_three min_three max_four min_four   -- for this text's walks alone
set_option linter.unusedVariables false
set_option linter.unusedSimpArgs false

/-! ### LNa: function 7 -/
mutual
def LNa.j0 : Nat → List (S40) → ByteArray → ByteArray → Bool → Option (Bool)
 | 0, _, _, _, _ => none
 | k + 1, x0, x1, x2, x31 => if x31 = true then ((cotterlaw07_live.f).bind fun t244 => (some t244)) else ((cotterlaw07_copies.f k x0).bind fun t245 => (LNa.l0 k x0 x1 x2 t245 0))
def LNa.l0 : Nat → List (S40) → ByteArray → ByteArray → List (S40) → Int → Option (Bool)
 | 0, _, _, _, _, _ => none
 | k + 1, x0, x1, x2, x7, x8 => if x8 < (x7.length : Int) then (LNa.l1 k x0 x1 x2 x7 x8 0) else (if (x1.size : Int) > 28 then ((cotterlaw07_live.f).bind fun t268 => (some t268)) else ((link_Link.f x0).bind fun bt269 => ((link_Link.f x7).bind fun bt278 => (if bt269.2.2.2 = bt278.2.2.2 then (if bt269.1.toList = bt278.1.toList then ((cotterref06_SameData.f k bt269.2.1 bt278.2.1).bind fun t287 => (if t287 = true then (LNa.j4 k x1 ((bt269.2.2.1.length : Int) != (bt278.2.2.1.length : Int)) bt269.1 bt269.2.1 bt269.2.2.1 bt278.1 bt278.2.1 bt278.2.2.1) else (LNa.j4 k x1 true bt269.1 bt269.2.1 bt269.2.2.1 bt278.1 bt278.2.1 bt278.2.2.1))) else (LNa.j4 k x1 true bt269.1 bt269.2.1 bt269.2.2.1 bt278.1 bt278.2.1 bt278.2.2.1)) else (LNa.j4 k x1 true bt269.1 bt269.2.1 bt269.2.2.1 bt278.1 bt278.2.1 bt278.2.2.1)))))
def LNa.l1 : Nat → List (S40) → ByteArray → ByteArray → List (S40) → Int → Int → Option (Bool)
 | 0, _, _, _, _, _, _ => none
 | k + 1, x0, x1, x2, x7, x8, x9 => if 0 ≤ x8 then (if x8 < (x7.length : Int) then (if x9 < (((rd_T40 x7 x8).f2).length : Int) then (if 0 ≤ x9 then (if ((rd_T36 ((rd_T40 x7 x8).f2) x9).f0).toList = x2.toList then ((cotterlaw07_live.f).bind fun t251 => (some t251)) else (if ((rd_T36 ((rd_T40 x7 x8).f2) x9).f0).toList = x1.toList then (LNa.l1 k x0 x1 x2 (x7.set (x8 : Int).toNat (⟨(rd_T40 x7 x8).f0, (rd_T40 x7 x8).f1, (((rd_T40 x7 x8).f2).set (x9 : Int).toNat (⟨x2, (rd_T36 ((rd_T40 x7 x8).f2) x9).f1, (rd_T36 ((rd_T40 x7 x8).f2) x9).f2⟩ : S36)), (rd_T40 x7 x8).f3⟩ : S40)) x8 (wrap64 (x9 + 1))) else (LNa.l1 k x0 x1 x2 x7 x8 (wrap64 (x9 + 1))))) else (none)) else (LNa.l2 k x0 x1 x2 x7 x8 0)) else (none)) else (none)
def LNa.l2 : Nat → List (S40) → ByteArray → ByteArray → List (S40) → Int → Int → Option (Bool)
 | 0, _, _, _, _, _, _ => none
 | k + 1, x0, x1, x2, x7, x8, x10 => if 0 ≤ x8 then (if x8 < (x7.length : Int) then (if x10 < (((rd_T40 x7 x8).f3).length : Int) then (if 0 ≤ x10 then (if ((rd_T45 ((rd_T40 x7 x8).f3) x10).f2).toList = x2.toList then ((cotterlaw07_live.f).bind fun t261 => (some t261)) else (if ((rd_T45 ((rd_T40 x7 x8).f3) x10).f2).toList = x1.toList then (LNa.l2 k x0 x1 x2 (x7.set (x8 : Int).toNat (⟨(rd_T40 x7 x8).f0, (rd_T40 x7 x8).f1, (rd_T40 x7 x8).f2, (((rd_T40 x7 x8).f3).set (x10 : Int).toNat (⟨(rd_T45 ((rd_T40 x7 x8).f3) x10).f0, (rd_T45 ((rd_T40 x7 x8).f3) x10).f1, x2, (rd_T45 ((rd_T40 x7 x8).f3) x10).f3⟩ : S45))⟩ : S40)) x8 (wrap64 (x10 + 1))) else (LNa.l2 k x0 x1 x2 x7 x8 (wrap64 (x10 + 1))))) else (none)) else (LNa.l0 k x0 x1 x2 x7 (wrap64 (x8 + 1)))) else (none)) else (none)
def LNa.j4 : Nat → ByteArray → Bool → ByteArray → List Int → List (S36) → ByteArray → List Int → List (S36) → Option (Bool)
 | 0, _, _, _, _, _, _, _, _ => none
 | k + 1, x1, x165, x278000, x278001, x278002, x287000, x287001, x287002 => if x165 = true then (some false) else (LNa.l3 k x1 0 x278000 x278001 x278002 x287000 x287001 x287002)
def LNa.l3 : Nat → ByteArray → Int → ByteArray → List Int → List (S36) → ByteArray → List Int → List (S36) → Option (Bool)
 | 0, _, _, _, _, _, _, _, _ => none
 | k + 1, x1, x15, x278000, x278001, x278002, x287000, x287001, x287002 => if x15 < (x278002.length : Int) then (if 0 ≤ x15 then (if x15 < (x287002.length : Int) then (if ((rd_T36 x278002 x15).f2) = ((rd_T36 x287002 x15).f2) then (if ((rd_T36 x278002 x15).f1) = ((rd_T36 x287002 x15).f1) then (if ((rd_T36 x278002 x15).f0).toList = ((rd_T36 x287002 x15).f0).toList then (LNa.l3 k x1 (wrap64 (x15 + 1)) x278000 x278001 x278002 x287000 x287001 x287002) else (if ((rd_T36 x278002 x15).f0).toList = x1.toList then (LNa.l3 k x1 (wrap64 (x15 + 1)) x278000 x278001 x278002 x287000 x287001 x287002) else (some false))) else (some false)) else (some false)) else (none)) else (none)) else ((cotterlaw07_live.f).bind fun t295 => (some t295))
end
def LNa.f (k : Nat) (l0 : List (S40)) (a1 : ByteArray) (a2 : ByteArray) : Option (Bool) := (cotterlaw07_small.f k l0).bind fun t243 => (if t243 = true then (if a2.toList = ([] : List UInt8) then (LNa.j0 k l0 a1 a2 true) else (if (a2.size : Int) > 28 then (LNa.j0 k l0 a1 a2 true) else (LNa.j0 k l0 a1 a2 (a1.toList == ([] : List UInt8))))) else (LNa.j0 k l0 a1 a2 true))
set_option maxHeartbeats 8000000 in
set_option maxRecDepth 100000 in
theorem LNa.calls (k : Nat) (A0 : Option Addr) (c0 : Nat) (l0 : List (S40)) (a1 : ByteArray) (a2 : ByteArray) (r : Bool) (w : World) (hr0 : Kd.C k40 w A0 l0.length l0) (hc0 : l0.length ≤ c0) (h : LNa.f k l0 a1 a2 = some r) :
 Calls Try.prog 7 #[.slice A0 l0.length c0, .string a1, .string a2] w fun e w' => e = .returned (.bool r) ∧ Below w.heap.size w w' := by
 have hu29 := Try.underlying29
 have HR0 := ak hr0
 have HC0 := ak hc0
 clear hr0 hc0
 have HB := ak (Below.refl w.heap.size w)
 have H : ((cotterlaw07_small.f k l0).bind fun t243 => (if t243 = true then (if a2.toList = ([] : List UInt8) then (LNa.j0 k l0 a1 a2 true) else (if (a2.size : Int) > 28 then (LNa.j0 k l0 a1 a2 true) else (LNa.j0 k l0 a1 a2 (a1.toList == ([] : List UInt8))))) else (LNa.j0 k l0 a1 a2 true))) = some r := h
 clear h
 have HC4 := ak H
 clear H
 go_enter Try.func7, Try.ntmps7
 go_upto_region 1 with (fail)
 repeat (go_quiet (fail); go_upto_region 1 with (fail))
 go_cut [31] (fun v31 wc => ∃ (kq : Nat) (x31_3 : Bool), v31 = .bool x31_3 ∧ Aside0 (LNa.j0 kq l0 a1 a2 x31_3 = some r) ∧ Aside0 (kq ≤ k) ∧ Aside0 (Below w.heap.size w wc))
 case first =>
  have H := HC4.out
  clear HC4
  replace H := Option.bind_eq_some_iff.mp H
  obtain ⟨t243, A50, H⟩ := H
  replace H : (if t243 = true then (if a2.toList = ([] : List UInt8) then (LNa.j0 k l0 a1 a2 true) else (if (a2.size : Int) > 28 then (LNa.j0 k l0 a1 a2 true) else (LNa.j0 k l0 a1 a2 (a1.toList == ([] : List UInt8))))) else (LNa.j0 k l0 a1 a2 true)) = some r := H
  have A5 := ak A50
  clear A50
  by_cases c6 : t243 = true
  ·subst c6
   have H1 : (if a2.toList = ([] : List UInt8) then (LNa.j0 k l0 a1 a2 true) else (if (a2.size : Int) > 28 then (LNa.j0 k l0 a1 a2 true) else (LNa.j0 k l0 a1 a2 (a1.toList == ([] : List UInt8))))) = some r := by rw [if_pos rfl] at H; exact H
   clear H
   have H := H1
   clear H1
   by_cases c7 : a2.toList = ([] : List UInt8)
   ·rw [if_pos c7] at H
    have c7b0 : (a2.toList == ([] : List UInt8)) = true := beq_iff_eq.mpr c7
    have c7b1 : (a2.toList != ([] : List UInt8)) = false := bne_eq_false_iff_eq.mpr c7
    clear c7
    (first | rw [c7b0] | (simp only [i64_w, i32_w]; rw [c7b0]) | skip)
    have H' := ak H
    clear H
    as_aux_lemma =>
     go_wp2_with (first | (go_at_call 9; (with_reducible refine (cotterlaw07_small.calls k _ _ l0 true _ ?side1 ?side2 A5.out).mono ?_); (case side1 => repeat (first | exact (Kd.C_below HR0.out HB.out) | (with_reducible refine Kd.C_alloc ?_ _) | (with_reducible refine Kd.C_drewN ?_ _) | (with_reducible refine Kd.C_drew ?_))); (case side2 => exact HC0.out); rintro e w' ⟨rfl, ⟨nd, rfl⟩⟩; (try first | exact ⟨rfl, _, World.drewN_drewN _ _ _⟩ | exact ⟨rfl, _, Eq.trans (World.drewN_drewN _ _ _) (congrArg (World.drewN _) (Nat.add_assoc _ _ _))⟩)))
     repeat (go_quiet (first | (go_at_call 9; (with_reducible refine (cotterlaw07_small.calls k _ _ l0 true _ ?side1 ?side2 A5.out).mono ?_); (case side1 => repeat (first | exact (Kd.C_below HR0.out HB.out) | (with_reducible refine Kd.C_alloc ?_ _) | (with_reducible refine Kd.C_drewN ?_ _) | (with_reducible refine Kd.C_drew ?_))); (case side2 => exact HC0.out); rintro e w' ⟨rfl, ⟨nd, rfl⟩⟩; (try first | exact ⟨rfl, _, World.drewN_drewN _ _ _⟩ | exact ⟨rfl, _, Eq.trans (World.drewN_drewN _ _ _) (congrArg (World.drewN _) (Nat.add_assoc _ _ _))⟩))); try go_wp2_with (first | (go_at_call 9; (with_reducible refine (cotterlaw07_small.calls k _ _ l0 true _ ?side1 ?side2 A5.out).mono ?_); (case side1 => repeat (first | exact (Kd.C_below HR0.out HB.out) | (with_reducible refine Kd.C_alloc ?_ _) | (with_reducible refine Kd.C_drewN ?_ _) | (with_reducible refine Kd.C_drew ?_))); (case side2 => exact HC0.out); rintro e w' ⟨rfl, ⟨nd, rfl⟩⟩; (try first | exact ⟨rfl, _, World.drewN_drewN _ _ _⟩ | exact ⟨rfl, _, Eq.trans (World.drewN_drewN _ _ _) (congrArg (World.drewN _) (Nat.add_assoc _ _ _))⟩))))
     go_meet
     case rel => exact ⟨_, (true), (by first | rfl | (simp; done) | (simp [*]; done)), H', ⟨by first | omega | exact Nat.le_refl _⟩, ⟨by repeat (first | (with_reducible first | exact HB.out | apply below_alloc | apply pw_below_drewN | apply below_drew1) | exact HB.out)⟩⟩
   ·rw [if_neg c7] at H
    have c7b0 : (a2.toList == ([] : List UInt8)) = false := beq_eq_false_iff_ne.mpr c7
    have c7b1 : (a2.toList != ([] : List UInt8)) = true := bne_iff_ne.mpr c7
    (first | rw [c7b0] | (simp only [i64_w, i32_w]; rw [c7b0]) | skip)
    by_cases c8 : (a2.size : Int) > 28
    ·rw [if_pos c8] at H
     have c8b0 : decide (28 < (a2.size : Int)) = true := decide_eq_true c8
     have c8b1 : decide (28 < a2.size) = true := decide_eq_true (by omega)
     clear c8
     have H' := ak H
     clear H
     as_aux_lemma =>
      go_wp2_with (first | (go_at_call 9; (with_reducible refine (cotterlaw07_small.calls k _ _ l0 true _ ?side1 ?side2 A5.out).mono ?_); (case side1 => repeat (first | exact (Kd.C_below HR0.out HB.out) | (with_reducible refine Kd.C_alloc ?_ _) | (with_reducible refine Kd.C_drewN ?_ _) | (with_reducible refine Kd.C_drew ?_))); (case side2 => exact HC0.out); rintro e w' ⟨rfl, ⟨nd, rfl⟩⟩; (try first | exact ⟨rfl, _, World.drewN_drewN _ _ _⟩ | exact ⟨rfl, _, Eq.trans (World.drewN_drewN _ _ _) (congrArg (World.drewN _) (Nat.add_assoc _ _ _))⟩)))
      repeat (go_quiet (first | (go_at_call 9; (with_reducible refine (cotterlaw07_small.calls k _ _ l0 true _ ?side1 ?side2 A5.out).mono ?_); (case side1 => repeat (first | exact (Kd.C_below HR0.out HB.out) | (with_reducible refine Kd.C_alloc ?_ _) | (with_reducible refine Kd.C_drewN ?_ _) | (with_reducible refine Kd.C_drew ?_))); (case side2 => exact HC0.out); rintro e w' ⟨rfl, ⟨nd, rfl⟩⟩; (try first | exact ⟨rfl, _, World.drewN_drewN _ _ _⟩ | exact ⟨rfl, _, Eq.trans (World.drewN_drewN _ _ _) (congrArg (World.drewN _) (Nat.add_assoc _ _ _))⟩))); try go_wp2_with (first | (go_at_call 9; (with_reducible refine (cotterlaw07_small.calls k _ _ l0 true _ ?side1 ?side2 A5.out).mono ?_); (case side1 => repeat (first | exact (Kd.C_below HR0.out HB.out) | (with_reducible refine Kd.C_alloc ?_ _) | (with_reducible refine Kd.C_drewN ?_ _) | (with_reducible refine Kd.C_drew ?_))); (case side2 => exact HC0.out); rintro e w' ⟨rfl, ⟨nd, rfl⟩⟩; (try first | exact ⟨rfl, _, World.drewN_drewN _ _ _⟩ | exact ⟨rfl, _, Eq.trans (World.drewN_drewN _ _ _) (congrArg (World.drewN _) (Nat.add_assoc _ _ _))⟩))))
      go_meet
      case rel => exact ⟨_, (true), (by first | rfl | (simp; done) | (simp [*]; done)), H', ⟨by first | omega | exact Nat.le_refl _⟩, ⟨by repeat (first | (with_reducible first | exact HB.out | apply below_alloc | apply pw_below_drewN | apply below_drew1) | exact HB.out)⟩⟩
    ·rw [if_neg c8] at H
     have c8b0 : decide (28 < (a2.size : Int)) = false := decide_eq_false c8
     have c8b1 : decide (28 < a2.size) = false := decide_eq_false (by omega)
     clear c8
     have H' := ak H
     clear H
     as_aux_lemma =>
      go_wp2_with (first | (go_at_call 9; (with_reducible refine (cotterlaw07_small.calls k _ _ l0 true _ ?side1 ?side2 A5.out).mono ?_); (case side1 => repeat (first | exact (Kd.C_below HR0.out HB.out) | (with_reducible refine Kd.C_alloc ?_ _) | (with_reducible refine Kd.C_drewN ?_ _) | (with_reducible refine Kd.C_drew ?_))); (case side2 => exact HC0.out); rintro e w' ⟨rfl, ⟨nd, rfl⟩⟩; (try first | exact ⟨rfl, _, World.drewN_drewN _ _ _⟩ | exact ⟨rfl, _, Eq.trans (World.drewN_drewN _ _ _) (congrArg (World.drewN _) (Nat.add_assoc _ _ _))⟩)))
      repeat (go_quiet (first | (go_at_call 9; (with_reducible refine (cotterlaw07_small.calls k _ _ l0 true _ ?side1 ?side2 A5.out).mono ?_); (case side1 => repeat (first | exact (Kd.C_below HR0.out HB.out) | (with_reducible refine Kd.C_alloc ?_ _) | (with_reducible refine Kd.C_drewN ?_ _) | (with_reducible refine Kd.C_drew ?_))); (case side2 => exact HC0.out); rintro e w' ⟨rfl, ⟨nd, rfl⟩⟩; (try first | exact ⟨rfl, _, World.drewN_drewN _ _ _⟩ | exact ⟨rfl, _, Eq.trans (World.drewN_drewN _ _ _) (congrArg (World.drewN _) (Nat.add_assoc _ _ _))⟩))); try go_wp2_with (first | (go_at_call 9; (with_reducible refine (cotterlaw07_small.calls k _ _ l0 true _ ?side1 ?side2 A5.out).mono ?_); (case side1 => repeat (first | exact (Kd.C_below HR0.out HB.out) | (with_reducible refine Kd.C_alloc ?_ _) | (with_reducible refine Kd.C_drewN ?_ _) | (with_reducible refine Kd.C_drew ?_))); (case side2 => exact HC0.out); rintro e w' ⟨rfl, ⟨nd, rfl⟩⟩; (try first | exact ⟨rfl, _, World.drewN_drewN _ _ _⟩ | exact ⟨rfl, _, Eq.trans (World.drewN_drewN _ _ _) (congrArg (World.drewN _) (Nat.add_assoc _ _ _))⟩))))
      go_meet
      case rel => exact ⟨_, ((a1.toList == ([] : List UInt8))), (by first | rfl | (simp; done) | (simp [*]; done)), H', ⟨by first | omega | exact Nat.le_refl _⟩, ⟨by repeat (first | (with_reducible first | exact HB.out | apply below_alloc | apply pw_below_drewN | apply below_drew1) | exact HB.out)⟩⟩
  ·replace c6 := Bool.eq_false_iff.mpr c6
   subst c6
   have H1 : (LNa.j0 k l0 a1 a2 true) = some r := by rw [if_neg (show ¬ (false = true) by decide)] at H; exact H
   clear H
   have H := H1
   clear H1
   have H' := ak H
   clear H
   as_aux_lemma =>
    go_wp2_with (first | (go_at_call 9; (with_reducible refine (cotterlaw07_small.calls k _ _ l0 false _ ?side1 ?side2 A5.out).mono ?_); (case side1 => repeat (first | exact (Kd.C_below HR0.out HB.out) | (with_reducible refine Kd.C_alloc ?_ _) | (with_reducible refine Kd.C_drewN ?_ _) | (with_reducible refine Kd.C_drew ?_))); (case side2 => exact HC0.out); rintro e w' ⟨rfl, ⟨nd, rfl⟩⟩; (try first | exact ⟨rfl, _, World.drewN_drewN _ _ _⟩ | exact ⟨rfl, _, Eq.trans (World.drewN_drewN _ _ _) (congrArg (World.drewN _) (Nat.add_assoc _ _ _))⟩)))
    repeat (go_quiet (first | (go_at_call 9; (with_reducible refine (cotterlaw07_small.calls k _ _ l0 false _ ?side1 ?side2 A5.out).mono ?_); (case side1 => repeat (first | exact (Kd.C_below HR0.out HB.out) | (with_reducible refine Kd.C_alloc ?_ _) | (with_reducible refine Kd.C_drewN ?_ _) | (with_reducible refine Kd.C_drew ?_))); (case side2 => exact HC0.out); rintro e w' ⟨rfl, ⟨nd, rfl⟩⟩; (try first | exact ⟨rfl, _, World.drewN_drewN _ _ _⟩ | exact ⟨rfl, _, Eq.trans (World.drewN_drewN _ _ _) (congrArg (World.drewN _) (Nat.add_assoc _ _ _))⟩))); try go_wp2_with (first | (go_at_call 9; (with_reducible refine (cotterlaw07_small.calls k _ _ l0 false _ ?side1 ?side2 A5.out).mono ?_); (case side1 => repeat (first | exact (Kd.C_below HR0.out HB.out) | (with_reducible refine Kd.C_alloc ?_ _) | (with_reducible refine Kd.C_drewN ?_ _) | (with_reducible refine Kd.C_drew ?_))); (case side2 => exact HC0.out); rintro e w' ⟨rfl, ⟨nd, rfl⟩⟩; (try first | exact ⟨rfl, _, World.drewN_drewN _ _ _⟩ | exact ⟨rfl, _, Eq.trans (World.drewN_drewN _ _ _) (congrArg (World.drewN _) (Nat.add_assoc _ _ _))⟩))))
    go_meet
    case rel => exact ⟨_, (true), (by first | rfl | (simp; done) | (simp [*]; done)), H', ⟨by first | omega | exact Nat.le_refl _⟩, ⟨by repeat (first | (with_reducible first | exact HB.out | apply below_alloc | apply pw_below_drewN | apply below_drew1) | exact HB.out)⟩⟩
 case rest =>
  clear HC4
  try clear p2
  try clear c6
  try clear c7
  try clear c7b0
  try clear c7b1
  try clear c8
  try clear c8b0
  try clear c8b1
  obtain ⟨kq, x31_3, rfl, HA, HJ3, HB⟩ := hcut
  cases kq with
  | zero => exact absurd HA.out (by simp [LNa.j0])
  | succ kj3 =>
   have H := HA.out
   clear HA
   simp only [LNa.j0] at H
   by_cases c9 : x31_3 = true
   ·subst c9
    have H1 : ((cotterlaw07_live.f).bind fun t244 => (some t244)) = some r := by rw [if_pos rfl] at H; exact H
    clear H
    have H := H1
    clear H1
    replace H := Option.bind_eq_some_iff.mp H
    obtain ⟨t244, A100, H⟩ := H
    replace H : (some t244) = some r := H
    have A10 := ak A100
    clear A100
    obtain rfl := Option.some.inj H
    as_aux_lemma =>
     go_wp2_with (first | (go_at_call 10; (with_reducible refine (cotterlaw07_live.calls  t244 _ A10.out).mono ?_); rintro e w11 ⟨rfl, hb⟩; have n0_ := ak (below_step (by repeat (first | (with_reducible first | exact HB.out | apply below_alloc | apply pw_below_drewN | apply below_drew1) | exact HB.out)) hb); clear HB; have HB := n0_; clear n0_; (try clear hb); (try clear hb2); (try clear hk); (try clear hi)))
     repeat (go_quiet (first | (go_at_call 10; (with_reducible refine (cotterlaw07_live.calls  t244 _ A10.out).mono ?_); rintro e w11 ⟨rfl, hb⟩; have n0_ := ak (below_step (by repeat (first | (with_reducible first | exact HB.out | apply below_alloc | apply pw_below_drewN | apply below_drew1) | exact HB.out)) hb); clear HB; have HB := n0_; clear n0_; (try clear hb); (try clear hb2); (try clear hk); (try clear hi))); try go_wp2_with (first | (go_at_call 10; (with_reducible refine (cotterlaw07_live.calls  t244 _ A10.out).mono ?_); rintro e w11 ⟨rfl, hb⟩; have n0_ := ak (below_step (by repeat (first | (with_reducible first | exact HB.out | apply below_alloc | apply pw_below_drewN | apply below_drew1) | exact HB.out)) hb); clear HB; have HB := n0_; clear n0_; (try clear hb); (try clear hb2); (try clear hk); (try clear hi))))
     go_ret
     exact ⟨by first | rfl | (simp [errW_none, errW_some] <;> rfl) | (simp [*, errW_none, errW_some] <;> rfl), by repeat (first | (with_reducible first | exact HB.out | apply below_alloc | apply pw_below_drewN | apply below_drew1) | exact HB.out)⟩
   ·replace c9 := Bool.eq_false_iff.mpr c9
    subst c9
    have H1 : ((cotterlaw07_copies.f kj3 l0).bind fun t245 => (LNa.l0 kj3 l0 a1 a2 t245 0)) = some r := by rw [if_neg (show ¬ (false = true) by decide)] at H; exact H
    clear H
    have H := H1
    clear H1
    replace H := Option.bind_eq_some_iff.mp H
    obtain ⟨t245, A120, H⟩ := H
    replace H : (LNa.l0 kj3 l0 a1 a2 t245 0) = some r := H
    have A12 := ak A120
    clear A120
    have H' := ak H
    clear H
    go_wp2_with (first | (go_at_call 11; (with_reducible refine (cotterlaw07_copies.calls kj3 _ _ l0 t245 _ ?side1 ?side2 A12.out).mono ?_); (case side1 => repeat (first | exact (Kd.C_below HR0.out HB.out) | (with_reducible refine Kd.C_alloc ?_ _) | (with_reducible refine Kd.C_drewN ?_ _) | (with_reducible refine Kd.C_drew ?_))); (case side2 => exact HC0.out); rintro e w13 ⟨v246, rfl, ho0, hb⟩; have n0_ := ak (Kd.S_lower ho0 (below_size (by repeat (first | (with_reducible first | exact HB.out | apply below_alloc | apply pw_below_drewN | apply below_drew1) | exact HB.out)))); have n1_ := ak (below_step (by repeat (first | (with_reducible first | exact HB.out | apply below_alloc | apply pw_below_drewN | apply below_drew1) | exact HB.out)) hb); clear HB; have HO247 := n0_; have HB := n1_; clear n0_ n1_; (try clear hb); (try clear hb2); (try clear hk); (try clear hi); (try clear ho0)))
    repeat (go_quiet (first | (go_at_call 11; (with_reducible refine (cotterlaw07_copies.calls kj3 _ _ l0 t245 _ ?side1 ?side2 A12.out).mono ?_); (case side1 => repeat (first | exact (Kd.C_below HR0.out HB.out) | (with_reducible refine Kd.C_alloc ?_ _) | (with_reducible refine Kd.C_drewN ?_ _) | (with_reducible refine Kd.C_drew ?_))); (case side2 => exact HC0.out); rintro e w13 ⟨v246, rfl, ho0, hb⟩; have n0_ := ak (Kd.S_lower ho0 (below_size (by repeat (first | (with_reducible first | exact HB.out | apply below_alloc | apply pw_below_drewN | apply below_drew1) | exact HB.out)))); have n1_ := ak (below_step (by repeat (first | (with_reducible first | exact HB.out | apply below_alloc | apply pw_below_drewN | apply below_drew1) | exact HB.out)) hb); clear HB; have HO247 := n0_; have HB := n1_; clear n0_ n1_; (try clear hb); (try clear hb2); (try clear hk); (try clear hi); (try clear ho0))); try go_wp2_with (first | (go_at_call 11; (with_reducible refine (cotterlaw07_copies.calls kj3 _ _ l0 t245 _ ?side1 ?side2 A12.out).mono ?_); (case side1 => repeat (first | exact (Kd.C_below HR0.out HB.out) | (with_reducible refine Kd.C_alloc ?_ _) | (with_reducible refine Kd.C_drewN ?_ _) | (with_reducible refine Kd.C_drew ?_))); (case side2 => exact HC0.out); rintro e w13 ⟨v246, rfl, ho0, hb⟩; have n0_ := ak (Kd.S_lower ho0 (below_size (by repeat (first | (with_reducible first | exact HB.out | apply below_alloc | apply pw_below_drewN | apply below_drew1) | exact HB.out)))); have n1_ := ak (below_step (by repeat (first | (with_reducible first | exact HB.out | apply below_alloc | apply pw_below_drewN | apply below_drew1) | exact HB.out)) hb); clear HB; have HO247 := n0_; have HB := n1_; clear n0_ n1_; (try clear hb); (try clear hb2); (try clear hk); (try clear hi); (try clear ho0))))
    go_loopg [8] kj3 (fun kq v8 w' => ∃ (x7_2 : List (S40)) (x8_2 : Int), v8 = .int .i64 x8_2 ∧ Aside0 (LNa.l0 kq l0 a1 a2 x7_2 x8_2 = some r) ∧ Aside0 (kq ≤ kj3) ∧ Aside0 (Kd.S k40 40 w' w.heap.size (fun _ => True) v246 x7_2) ∧ Aside0 (Below w.heap.size w w'))
    case atStart => exact ⟨(t245), (0), (by first | rfl | (simp; done) | (simp [*]; done)), H', ⟨Nat.le_refl _⟩, ⟨by (with_reducible repeat (first | apply Kd.S_alloc | apply Kd.S_drewN | apply Kd.S_drew)); exact HO247.out⟩, ⟨by repeat (first | (with_reducible first | exact HB.out | apply below_alloc | apply pw_below_drewN | apply below_drew1) | exact HB.out)⟩⟩
    case round =>
     clear H'
     try clear p2
     try clear c6
     try clear c7
     try clear c7b0
     try clear c7b1
     try clear c8
     try clear c8b0
     try clear c8b1
     try clear c9
     try clear p2
     obtain ⟨x7_2, x8_2, rfl, HA, HK2, HO_7, HB⟩ := hrel
     cases gk with
     | zero => exact absurd HA.out (by simp [LNa.l0])
     | succ k2 =>
      have H := HA.out
      clear HA
      simp only [LNa.l0] at H
      by_cases c14 : x8_2 < (x7_2.length : Int)
      ·rw [if_pos c14] at H
       have c14b0 : decide (x8_2 < (x7_2.length : Int)) = true := decide_eq_true c14
       clear c14
       have H' := ak H
       clear H
       obtain ⟨Ao15, co15, eo15⟩ := Kd.S_slice HO_7.out
       subst eo15
       go_wp2
       repeat (go_quiet (fail); try go_wp2)
       go_loopg [9] k2 (fun kq v9 w' => ∃ (x7_3 : List (S40)) (x9_3 : Int), v9 = .int .i64 x9_3 ∧ Aside0 (LNa.l1 kq l0 a1 a2 x7_3 x8_2 x9_3 = some r) ∧ Aside0 (kq ≤ k2) ∧ Aside0 (Kd.S k40 40 w' w.heap.size (fun _ => True) (.slice Ao15 x7_2.length co15) x7_3) ∧ Aside0 (Below w.heap.size w w'))
       case atStart => exact ⟨(x7_2), (0), (by first | rfl | (simp; done) | (simp [*]; done)), H', ⟨Nat.le_refl _⟩, ⟨by (with_reducible repeat (first | apply Kd.S_alloc | apply Kd.S_drewN | apply Kd.S_drew)); exact HO_7.out⟩, ⟨by repeat (first | (with_reducible first | exact HB.out | apply below_alloc | apply pw_below_drewN | apply below_drew1) | exact HB.out)⟩⟩
       case round =>
        clear H'
        try clear c1
        try clear p2
        try clear c6
        try clear c7
        try clear c7b0
        try clear c7b1
        try clear c8
        try clear c8b0
        try clear c8b1
        try clear c9
        try clear c14
        try clear c14b0
        try clear p2
        obtain ⟨x7_3, x9_3, rfl, HA, HK3, HO_7, HB⟩ := hrel
        have hl7_3 := (Kd.S_reads' HO_7.out).1
        rw [hl7_3] at HO_7
        (try simp only [hl7_3])
        cases gk with
        | zero => exact absurd HA.out (by simp [LNa.l1])
        | succ k3 =>
         have H := HA.out
         clear HA
         simp only [LNa.l1] at H
         by_cases c16 : 0 ≤ x8_2
         ·rw [if_pos c16] at H
          have c16b0 : decide (0 ≤ x8_2) = true := decide_eq_true c16
          clear c16
          by_cases c17 : x8_2 < (x7_3.length : Int)
          ·rw [if_pos c17] at H
           have c17b0 : decide (x8_2 < (x7_3.length : Int)) = true := decide_eq_true c17
           (try simp only [hl7_3] at c17b0)
           clear c17
           by_cases c18 : x9_3 < (((rd_T40 x7_3 x8_2).f2).length : Int)
           ·rw [if_pos c18] at H
            have c18b0 : decide (x9_3 < (((rd_T40 x7_3 x8_2).f2).length : Int)) = true := decide_eq_true c18
            (try simp only [hl7_3] at c18b0)
            clear c18
            by_cases c19 : 0 ≤ x9_3
            ·rw [if_pos c19] at H
             have c19b0 : decide (0 ≤ x9_3) = true := decide_eq_true c19
             clear c19
             by_cases c20 : ((rd_T36 ((rd_T40 x7_3 x8_2).f2) x9_3).f0).toList = a2.toList
             ·rw [if_pos c20] at H
              have c20b0 : (((rd_T36 ((rd_T40 x7_3 x8_2).f2) x9_3).f0).toList == a2.toList) = true := beq_iff_eq.mpr c20
              have c20b1 : (((rd_T36 ((rd_T40 x7_3 x8_2).f2) x9_3).f0).toList != a2.toList) = false := bne_eq_false_iff_eq.mpr c20
              clear c20
              replace H := Option.bind_eq_some_iff.mp H
              obtain ⟨t251, A210, H⟩ := H
              replace H : (some t251) = some r := H
              have A21 := ak A210
              clear A210
              obtain rfl := Option.some.inj H
              have p248 : 0 ≤ (x8_2 : Int) := of_decide_eq_true (by first | (with_reducible assumption) | assumption)
              have q248 : x8_2 < (x7_3.length : Int) := of_decide_eq_true (by first | (with_reducible assumption) | assumption)
              obtain ⟨ad248, A248_1, c248_1, A248_2, c248_2, A248_3, c248_3, e248, hx248_0, hx248_1, hx248_2, hx248_3, hl248_1, hi248_1, hl248_2, hi248_2, hl248_3, hi248_3⟩ := at_T40 (Kd.S_reads' HO_7.out).2.2 x8_2 p248 q248
              cases e248
              obtain ⟨ce248, hce248, hMe248, hcc248⟩ := Kd.S_get HO_7.out z40 x8_2 p248 (by first | exact q248 | exact of_decide_eq_true (by first | (with_reducible assumption) | assumption) | (have e_ := (Kd.S_reads' HO_7.out).1; omega))
              obtain ⟨ve248_1, ve248_2, ve248_3, rfl, ge248_1, ge248_2, ge248_3⟩ := k40_openM hMe248
              have hv248_1 := hcc248 1 _ rfl
              rw [add_field _ _ 1 (by omega)] at hv248_1
              replace hv248_1 := Option.some.inj (hv248_1.symm.trans hx248_1)
              rw [hv248_1] at ge248_1
              have HL248_1 := ak (show Kd.R (Kd.int .i64) 2 _ _ _ _ ((rd_T40 x7_3 x8_2).f1) from ge248_1)
              clear hv248_1 ge248_1
              have HX248_1 := ak hx248_1
              have hv248_2 := hcc248 2 _ rfl
              rw [add_field _ _ 2 (by omega)] at hv248_2
              replace hv248_2 := Option.some.inj (hv248_2.symm.trans hx248_2)
              rw [hv248_2] at ge248_2
              have HL248_2 := ak (show Kd.R k36 36 _ _ _ _ ((rd_T40 x7_3 x8_2).f2) from ge248_2)
              clear hv248_2 ge248_2
              have HX248_2 := ak hx248_2
              have hv248_3 := hcc248 3 _ rfl
              rw [add_field _ _ 3 (by omega)] at hv248_3
              replace hv248_3 := Option.some.inj (hv248_3.symm.trans hx248_3)
              rw [hv248_3] at ge248_3
              have HL248_3 := ak (show Kd.R k45 45 _ _ _ _ ((rd_T40 x7_3 x8_2).f3) from ge248_3)
              clear hv248_3 ge248_3
              have HX248_3 := ak hx248_3
              clear hcc248 hce248
              have HR248_1 := ak hi248_1
              have HC248_1 := ak hl248_1
              clear hi248_1 hl248_1
              have HR248_2 := ak hi248_2
              have HC248_2 := ak hl248_2
              clear hi248_2 hl248_2
              have HR248_3 := ak hi248_3
              have HC248_3 := ak hl248_3
              clear hi248_3 hl248_3
              replace p248 := eq_true p248
              replace q248 := eq_true q248
              have p249 : 0 ≤ (x8_2 : Int) := of_decide_eq_true (by first | (with_reducible assumption) | assumption)
              have q249 : x8_2 < (x7_3.length : Int) := of_decide_eq_true (by first | (with_reducible assumption) | assumption)
              obtain ⟨ad249, A249_1, c249_1, A249_2, c249_2, A249_3, c249_3, e249, hx249_0, hx249_1, hx249_2, hx249_3, hl249_1, hi249_1, hl249_2, hi249_2, hl249_3, hi249_3⟩ := at_T40 (Kd.S_reads' HO_7.out).2.2 x8_2 p249 q249
              obtain rfl : ad248 = ad249 := (by injection e249)
              obtain ⟨ce249, hce249, hMe249, hcc249⟩ := Kd.S_get HO_7.out z40 x8_2 p249 (by first | exact q249 | exact of_decide_eq_true (by first | (with_reducible assumption) | assumption) | (have e_ := (Kd.S_reads' HO_7.out).1; omega))
              obtain ⟨ve249_1, ve249_2, ve249_3, rfl, ge249_1, ge249_2, ge249_3⟩ := k40_openM hMe249
              have hv249_1 := hcc249 1 _ rfl
              rw [add_field _ _ 1 (by omega)] at hv249_1
              replace hv249_1 := Option.some.inj (hv249_1.symm.trans hx249_1)
              rw [hv249_1] at ge249_1
              have HL249_1 := ak (show Kd.R (Kd.int .i64) 2 _ _ _ _ ((rd_T40 x7_3 x8_2).f1) from ge249_1)
              clear hv249_1 ge249_1
              have HX249_1 := ak hx249_1
              have hv249_2 := hcc249 2 _ rfl
              rw [add_field _ _ 2 (by omega)] at hv249_2
              replace hv249_2 := Option.some.inj (hv249_2.symm.trans hx249_2)
              rw [hv249_2] at ge249_2
              have HL249_2 := ak (show Kd.R k36 36 _ _ _ _ ((rd_T40 x7_3 x8_2).f2) from ge249_2)
              clear hv249_2 ge249_2
              have HX249_2 := ak hx249_2
              have hv249_3 := hcc249 3 _ rfl
              rw [add_field _ _ 3 (by omega)] at hv249_3
              replace hv249_3 := Option.some.inj (hv249_3.symm.trans hx249_3)
              rw [hv249_3] at ge249_3
              have HL249_3 := ak (show Kd.R k45 45 _ _ _ _ ((rd_T40 x7_3 x8_2).f3) from ge249_3)
              clear hv249_3 ge249_3
              have HX249_3 := ak hx249_3
              clear hcc249 hce249
              have HR249_1 := ak hi249_1
              have HC249_1 := ak hl249_1
              clear hi249_1 hl249_1
              have HR249_2 := ak hi249_2
              have HC249_2 := ak hl249_2
              clear hi249_2 hl249_2
              have HR249_3 := ak hi249_3
              have HC249_3 := ak hl249_3
              clear hi249_3 hl249_3
              replace p249 := eq_true p249
              replace q249 := eq_true q249
              have ea_ := Option.some.inj (hx248_1.symm.trans hx249_1)
              injection ea_ with ea_ en_ ec_
              subst ea_
              subst ec_
              clear en_
              have ea_ := Option.some.inj (hx248_2.symm.trans hx249_2)
              injection ea_ with ea_ en_ ec_
              subst ea_
              subst ec_
              clear en_
              have ea_ := Option.some.inj (hx248_3.symm.trans hx249_3)
              injection ea_ with ea_ en_ ec_
              subst ea_
              subst ec_
              clear en_
              have p250 : 0 ≤ (x9_3 : Int) := of_decide_eq_true (by first | (with_reducible assumption) | assumption)
              have q250 : x9_3 < (((rd_T40 x7_3 x8_2).f2).length : Int) := of_decide_eq_true (by first | (with_reducible assumption) | assumption)
              obtain ⟨ad250, e250, hx250_0, hx250_1, hx250_2⟩ := at_T36 (by repeat (first | (with_reducible exact HR249_2.out) | (with_reducible refine Kd.C_alloc ?_ _) | (with_reducible refine Kd.C_drewN ?_ _) | (with_reducible refine Kd.C_drew ?_) | exact HR249_2.out)) x9_3 p250 q250
              cases e250
              replace p250 := eq_true p250
              replace q250 := eq_true q250
              as_aux_lemma =>
               go_wp2_with (first | (go_at_call 10; (with_reducible refine (cotterlaw07_live.calls  t251 _ A21.out).mono ?_); rintro e w22 ⟨rfl, hb⟩; have n0_ := ak (Kd.S_below (by (with_reducible repeat (first | apply Kd.S_alloc | apply Kd.S_drewN | apply Kd.S_drew)); exact HO_7.out) hb); have n1_ := ak (Kd.R_below (by (with_reducible repeat (first | apply Kd.R_alloc | apply Kd.R_drewN | apply Kd.R_drew)); exact HL248_1.out) hb); have n2_ := ak (Kd.R_below (by (with_reducible repeat (first | apply Kd.R_alloc | apply Kd.R_drewN | apply Kd.R_drew)); exact HL248_2.out) hb); have n3_ := ak (Kd.R_below (by (with_reducible repeat (first | apply Kd.R_alloc | apply Kd.R_drewN | apply Kd.R_drew)); exact HL248_3.out) hb); have n4_ := ak (Kd.R_below (by (with_reducible repeat (first | apply Kd.R_alloc | apply Kd.R_drewN | apply Kd.R_drew)); exact HL249_1.out) hb); have n5_ := ak (Kd.R_below (by (with_reducible repeat (first | apply Kd.R_alloc | apply Kd.R_drewN | apply Kd.R_drew)); exact HL249_2.out) hb); have n6_ := ak (Kd.R_below (by (with_reducible repeat (first | apply Kd.R_alloc | apply Kd.R_drewN | apply Kd.R_drew)); exact HL249_3.out) hb); have n7_ := ak (Kd.C_below (by repeat (first | (with_reducible exact HR248_1.out) | (with_reducible refine Kd.C_alloc ?_ _) | (with_reducible refine Kd.C_drewN ?_ _) | (with_reducible refine Kd.C_drew ?_) | exact HR248_1.out)) hb); have n8_ := ak (pw_cell_below hb HX248_1.out); have n9_ := ak (Kd.C_below (by repeat (first | (with_reducible exact HR248_2.out) | (with_reducible refine Kd.C_alloc ?_ _) | (with_reducible refine Kd.C_drewN ?_ _) | (with_reducible refine Kd.C_drew ?_) | exact HR248_2.out)) hb); have n10_ := ak (pw_cell_below hb HX248_2.out); have n11_ := ak (Kd.C_below (by repeat (first | (with_reducible exact HR248_3.out) | (with_reducible refine Kd.C_alloc ?_ _) | (with_reducible refine Kd.C_drewN ?_ _) | (with_reducible refine Kd.C_drew ?_) | exact HR248_3.out)) hb); have n12_ := ak (pw_cell_below hb HX248_3.out); have n13_ := ak (Kd.C_below (by repeat (first | (with_reducible exact HR249_1.out) | (with_reducible refine Kd.C_alloc ?_ _) | (with_reducible refine Kd.C_drewN ?_ _) | (with_reducible refine Kd.C_drew ?_) | exact HR249_1.out)) hb); have n14_ := ak (pw_cell_below hb HX249_1.out); have n15_ := ak (Kd.C_below (by repeat (first | (with_reducible exact HR249_2.out) | (with_reducible refine Kd.C_alloc ?_ _) | (with_reducible refine Kd.C_drewN ?_ _) | (with_reducible refine Kd.C_drew ?_) | exact HR249_2.out)) hb); have n16_ := ak (pw_cell_below hb HX249_2.out); have n17_ := ak (Kd.C_below (by repeat (first | (with_reducible exact HR249_3.out) | (with_reducible refine Kd.C_alloc ?_ _) | (with_reducible refine Kd.C_drewN ?_ _) | (with_reducible refine Kd.C_drew ?_) | exact HR249_3.out)) hb); have n18_ := ak (pw_cell_below hb HX249_3.out); have n19_ := ak (below_step (by repeat (first | (with_reducible first | exact HB.out | apply below_alloc | apply pw_below_drewN | apply below_drew1) | exact HB.out)) hb); clear HO_7; clear HL248_1; clear HL248_2; clear HL248_3; clear HL249_1; clear HL249_2; clear HL249_3; clear HR248_1; clear HX248_1; clear HR248_2; clear HX248_2; clear HR248_3; clear HX248_3; clear HR249_1; clear HX249_1; clear HR249_2; clear HX249_2; clear HR249_3; clear HX249_3; clear HB; have HO_7 := n0_; have HL248_1 := n1_; have HL248_2 := n2_; have HL248_3 := n3_; have HL249_1 := n4_; have HL249_2 := n5_; have HL249_3 := n6_; have HR248_1 := n7_; have HX248_1 := n8_; have HR248_2 := n9_; have HX248_2 := n10_; have HR248_3 := n11_; have HX248_3 := n12_; have HR249_1 := n13_; have HX249_1 := n14_; have HR249_2 := n15_; have HX249_2 := n16_; have HR249_3 := n17_; have HX249_3 := n18_; have HB := n19_; clear n0_ n1_ n2_ n3_ n4_ n5_ n6_ n7_ n8_ n9_ n10_ n11_ n12_ n13_ n14_ n15_ n16_ n17_ n18_ n19_; (try clear hb); (try clear hb2); (try clear hk); (try clear hi)))
               repeat (go_quiet (first | (go_at_call 10; (with_reducible refine (cotterlaw07_live.calls  t251 _ A21.out).mono ?_); rintro e w22 ⟨rfl, hb⟩; have n0_ := ak (Kd.S_below (by (with_reducible repeat (first | apply Kd.S_alloc | apply Kd.S_drewN | apply Kd.S_drew)); exact HO_7.out) hb); have n1_ := ak (Kd.R_below (by (with_reducible repeat (first | apply Kd.R_alloc | apply Kd.R_drewN | apply Kd.R_drew)); exact HL248_1.out) hb); have n2_ := ak (Kd.R_below (by (with_reducible repeat (first | apply Kd.R_alloc | apply Kd.R_drewN | apply Kd.R_drew)); exact HL248_2.out) hb); have n3_ := ak (Kd.R_below (by (with_reducible repeat (first | apply Kd.R_alloc | apply Kd.R_drewN | apply Kd.R_drew)); exact HL248_3.out) hb); have n4_ := ak (Kd.R_below (by (with_reducible repeat (first | apply Kd.R_alloc | apply Kd.R_drewN | apply Kd.R_drew)); exact HL249_1.out) hb); have n5_ := ak (Kd.R_below (by (with_reducible repeat (first | apply Kd.R_alloc | apply Kd.R_drewN | apply Kd.R_drew)); exact HL249_2.out) hb); have n6_ := ak (Kd.R_below (by (with_reducible repeat (first | apply Kd.R_alloc | apply Kd.R_drewN | apply Kd.R_drew)); exact HL249_3.out) hb); have n7_ := ak (Kd.C_below (by repeat (first | (with_reducible exact HR248_1.out) | (with_reducible refine Kd.C_alloc ?_ _) | (with_reducible refine Kd.C_drewN ?_ _) | (with_reducible refine Kd.C_drew ?_) | exact HR248_1.out)) hb); have n8_ := ak (pw_cell_below hb HX248_1.out); have n9_ := ak (Kd.C_below (by repeat (first | (with_reducible exact HR248_2.out) | (with_reducible refine Kd.C_alloc ?_ _) | (with_reducible refine Kd.C_drewN ?_ _) | (with_reducible refine Kd.C_drew ?_) | exact HR248_2.out)) hb); have n10_ := ak (pw_cell_below hb HX248_2.out); have n11_ := ak (Kd.C_below (by repeat (first | (with_reducible exact HR248_3.out) | (with_reducible refine Kd.C_alloc ?_ _) | (with_reducible refine Kd.C_drewN ?_ _) | (with_reducible refine Kd.C_drew ?_) | exact HR248_3.out)) hb); have n12_ := ak (pw_cell_below hb HX248_3.out); have n13_ := ak (Kd.C_below (by repeat (first | (with_reducible exact HR249_1.out) | (with_reducible refine Kd.C_alloc ?_ _) | (with_reducible refine Kd.C_drewN ?_ _) | (with_reducible refine Kd.C_drew ?_) | exact HR249_1.out)) hb); have n14_ := ak (pw_cell_below hb HX249_1.out); have n15_ := ak (Kd.C_below (by repeat (first | (with_reducible exact HR249_2.out) | (with_reducible refine Kd.C_alloc ?_ _) | (with_reducible refine Kd.C_drewN ?_ _) | (with_reducible refine Kd.C_drew ?_) | exact HR249_2.out)) hb); have n16_ := ak (pw_cell_below hb HX249_2.out); have n17_ := ak (Kd.C_below (by repeat (first | (with_reducible exact HR249_3.out) | (with_reducible refine Kd.C_alloc ?_ _) | (with_reducible refine Kd.C_drewN ?_ _) | (with_reducible refine Kd.C_drew ?_) | exact HR249_3.out)) hb); have n18_ := ak (pw_cell_below hb HX249_3.out); have n19_ := ak (below_step (by repeat (first | (with_reducible first | exact HB.out | apply below_alloc | apply pw_below_drewN | apply below_drew1) | exact HB.out)) hb); clear HO_7; clear HL248_1; clear HL248_2; clear HL248_3; clear HL249_1; clear HL249_2; clear HL249_3; clear HR248_1; clear HX248_1; clear HR248_2; clear HX248_2; clear HR248_3; clear HX248_3; clear HR249_1; clear HX249_1; clear HR249_2; clear HX249_2; clear HR249_3; clear HX249_3; clear HB; have HO_7 := n0_; have HL248_1 := n1_; have HL248_2 := n2_; have HL248_3 := n3_; have HL249_1 := n4_; have HL249_2 := n5_; have HL249_3 := n6_; have HR248_1 := n7_; have HX248_1 := n8_; have HR248_2 := n9_; have HX248_2 := n10_; have HR248_3 := n11_; have HX248_3 := n12_; have HR249_1 := n13_; have HX249_1 := n14_; have HR249_2 := n15_; have HX249_2 := n16_; have HR249_3 := n17_; have HX249_3 := n18_; have HB := n19_; clear n0_ n1_ n2_ n3_ n4_ n5_ n6_ n7_ n8_ n9_ n10_ n11_ n12_ n13_ n14_ n15_ n16_ n17_ n18_ n19_; (try clear hb); (try clear hb2); (try clear hk); (try clear hi))); try go_wp2_with (first | (go_at_call 10; (with_reducible refine (cotterlaw07_live.calls  t251 _ A21.out).mono ?_); rintro e w22 ⟨rfl, hb⟩; have n0_ := ak (Kd.S_below (by (with_reducible repeat (first | apply Kd.S_alloc | apply Kd.S_drewN | apply Kd.S_drew)); exact HO_7.out) hb); have n1_ := ak (Kd.R_below (by (with_reducible repeat (first | apply Kd.R_alloc | apply Kd.R_drewN | apply Kd.R_drew)); exact HL248_1.out) hb); have n2_ := ak (Kd.R_below (by (with_reducible repeat (first | apply Kd.R_alloc | apply Kd.R_drewN | apply Kd.R_drew)); exact HL248_2.out) hb); have n3_ := ak (Kd.R_below (by (with_reducible repeat (first | apply Kd.R_alloc | apply Kd.R_drewN | apply Kd.R_drew)); exact HL248_3.out) hb); have n4_ := ak (Kd.R_below (by (with_reducible repeat (first | apply Kd.R_alloc | apply Kd.R_drewN | apply Kd.R_drew)); exact HL249_1.out) hb); have n5_ := ak (Kd.R_below (by (with_reducible repeat (first | apply Kd.R_alloc | apply Kd.R_drewN | apply Kd.R_drew)); exact HL249_2.out) hb); have n6_ := ak (Kd.R_below (by (with_reducible repeat (first | apply Kd.R_alloc | apply Kd.R_drewN | apply Kd.R_drew)); exact HL249_3.out) hb); have n7_ := ak (Kd.C_below (by repeat (first | (with_reducible exact HR248_1.out) | (with_reducible refine Kd.C_alloc ?_ _) | (with_reducible refine Kd.C_drewN ?_ _) | (with_reducible refine Kd.C_drew ?_) | exact HR248_1.out)) hb); have n8_ := ak (pw_cell_below hb HX248_1.out); have n9_ := ak (Kd.C_below (by repeat (first | (with_reducible exact HR248_2.out) | (with_reducible refine Kd.C_alloc ?_ _) | (with_reducible refine Kd.C_drewN ?_ _) | (with_reducible refine Kd.C_drew ?_) | exact HR248_2.out)) hb); have n10_ := ak (pw_cell_below hb HX248_2.out); have n11_ := ak (Kd.C_below (by repeat (first | (with_reducible exact HR248_3.out) | (with_reducible refine Kd.C_alloc ?_ _) | (with_reducible refine Kd.C_drewN ?_ _) | (with_reducible refine Kd.C_drew ?_) | exact HR248_3.out)) hb); have n12_ := ak (pw_cell_below hb HX248_3.out); have n13_ := ak (Kd.C_below (by repeat (first | (with_reducible exact HR249_1.out) | (with_reducible refine Kd.C_alloc ?_ _) | (with_reducible refine Kd.C_drewN ?_ _) | (with_reducible refine Kd.C_drew ?_) | exact HR249_1.out)) hb); have n14_ := ak (pw_cell_below hb HX249_1.out); have n15_ := ak (Kd.C_below (by repeat (first | (with_reducible exact HR249_2.out) | (with_reducible refine Kd.C_alloc ?_ _) | (with_reducible refine Kd.C_drewN ?_ _) | (with_reducible refine Kd.C_drew ?_) | exact HR249_2.out)) hb); have n16_ := ak (pw_cell_below hb HX249_2.out); have n17_ := ak (Kd.C_below (by repeat (first | (with_reducible exact HR249_3.out) | (with_reducible refine Kd.C_alloc ?_ _) | (with_reducible refine Kd.C_drewN ?_ _) | (with_reducible refine Kd.C_drew ?_) | exact HR249_3.out)) hb); have n18_ := ak (pw_cell_below hb HX249_3.out); have n19_ := ak (below_step (by repeat (first | (with_reducible first | exact HB.out | apply below_alloc | apply pw_below_drewN | apply below_drew1) | exact HB.out)) hb); clear HO_7; clear HL248_1; clear HL248_2; clear HL248_3; clear HL249_1; clear HL249_2; clear HL249_3; clear HR248_1; clear HX248_1; clear HR248_2; clear HX248_2; clear HR248_3; clear HX248_3; clear HR249_1; clear HX249_1; clear HR249_2; clear HX249_2; clear HR249_3; clear HX249_3; clear HB; have HO_7 := n0_; have HL248_1 := n1_; have HL248_2 := n2_; have HL248_3 := n3_; have HL249_1 := n4_; have HL249_2 := n5_; have HL249_3 := n6_; have HR248_1 := n7_; have HX248_1 := n8_; have HR248_2 := n9_; have HX248_2 := n10_; have HR248_3 := n11_; have HX248_3 := n12_; have HR249_1 := n13_; have HX249_1 := n14_; have HR249_2 := n15_; have HX249_2 := n16_; have HR249_3 := n17_; have HX249_3 := n18_; have HB := n19_; clear n0_ n1_ n2_ n3_ n4_ n5_ n6_ n7_ n8_ n9_ n10_ n11_ n12_ n13_ n14_ n15_ n16_ n17_ n18_ n19_; (try clear hb); (try clear hb2); (try clear hk); (try clear hi))))
               go_ret
               exact ⟨by first | rfl | (simp [errW_none, errW_some] <;> rfl) | (simp [*, errW_none, errW_some] <;> rfl), by repeat (first | (with_reducible first | exact HB.out | apply below_alloc | apply pw_below_drewN | apply below_drew1) | exact HB.out)⟩
             ·rw [if_neg c20] at H
              have c20b0 : (((rd_T36 ((rd_T40 x7_3 x8_2).f2) x9_3).f0).toList == a2.toList) = false := beq_eq_false_iff_ne.mpr c20
              have c20b1 : (((rd_T36 ((rd_T40 x7_3 x8_2).f2) x9_3).f0).toList != a2.toList) = true := bne_iff_ne.mpr c20
              by_cases c23 : ((rd_T36 ((rd_T40 x7_3 x8_2).f2) x9_3).f0).toList = a1.toList
              ·rw [if_pos c23] at H
               have c23b0 : (((rd_T36 ((rd_T40 x7_3 x8_2).f2) x9_3).f0).toList == a1.toList) = true := beq_iff_eq.mpr c23
               have c23b1 : (((rd_T36 ((rd_T40 x7_3 x8_2).f2) x9_3).f0).toList != a1.toList) = false := bne_eq_false_iff_eq.mpr c23
               clear c23
               obtain ⟨y255, hy255⟩ : ∃ y_ : List (S36), y_ = (((rd_T40 x7_3 x8_2).f2).set (x9_3 : Int).toNat (⟨a2, (rd_T36 ((rd_T40 x7_3 x8_2).f2) x9_3).f1, (rd_T36 ((rd_T40 x7_3 x8_2).f2) x9_3).f2⟩ : S36)) := ⟨_, rfl⟩
               replace H : (LNa.l1 k3 l0 a1 a2 (x7_3.set (x8_2 : Int).toNat (⟨(rd_T40 x7_3 x8_2).f0, (rd_T40 x7_3 x8_2).f1, y255, (rd_T40 x7_3 x8_2).f3⟩ : S40)) x8_2 (wrap64 (x9_3 + 1))) = some r := by first | (rw [hy255]; with_reducible exact H) | (have H2_ := (Option.bind_some _ _).symm.trans H; rw [hy255]; with_reducible exact H2_) | (have H2_ := (Option.bind_some _ _).symm.trans H; with_reducible exact H2_) | with_reducible exact H | (rw [hy255]; exact H) | exact H
               have Ny255 := ak hy255
               clear hy255
               obtain ⟨y257, hy257⟩ : ∃ y_ : List (S40), y_ = (x7_3.set (x8_2 : Int).toNat (⟨(rd_T40 x7_3 x8_2).f0, (rd_T40 x7_3 x8_2).f1, y255, (rd_T40 x7_3 x8_2).f3⟩ : S40)) := ⟨_, rfl⟩
               replace H : (LNa.l1 k3 l0 a1 a2 y257 x8_2 (wrap64 (x9_3 + 1))) = some r := by first | (rw [hy257]; with_reducible exact H) | (have H2_ := (Option.bind_some _ _).symm.trans H; rw [hy257]; with_reducible exact H2_) | (have H2_ := (Option.bind_some _ _).symm.trans H; with_reducible exact H2_) | with_reducible exact H | (rw [hy257]; exact H) | exact H
               have Ny257 := ak hy257
               clear hy257
               have H' := ak H
               clear H
               have p248 : 0 ≤ (x8_2 : Int) := of_decide_eq_true (by first | (with_reducible assumption) | assumption)
               have q248 : x8_2 < (x7_3.length : Int) := of_decide_eq_true (by first | (with_reducible assumption) | assumption)
               obtain ⟨ad248, A248_1, c248_1, A248_2, c248_2, A248_3, c248_3, e248, hx248_0, hx248_1, hx248_2, hx248_3, hl248_1, hi248_1, hl248_2, hi248_2, hl248_3, hi248_3⟩ := at_T40 (Kd.S_reads' HO_7.out).2.2 x8_2 p248 q248
               cases e248
               obtain ⟨ce248, hce248, hMe248, hcc248⟩ := Kd.S_get HO_7.out z40 x8_2 p248 (by first | exact q248 | exact of_decide_eq_true (by first | (with_reducible assumption) | assumption) | (have e_ := (Kd.S_reads' HO_7.out).1; omega))
               obtain ⟨ve248_1, ve248_2, ve248_3, rfl, ge248_1, ge248_2, ge248_3⟩ := k40_openM hMe248
               have hv248_1 := hcc248 1 _ rfl
               rw [add_field _ _ 1 (by omega)] at hv248_1
               replace hv248_1 := Option.some.inj (hv248_1.symm.trans hx248_1)
               rw [hv248_1] at ge248_1
               have HL248_1 := ak (show Kd.R (Kd.int .i64) 2 _ _ _ _ ((rd_T40 x7_3 x8_2).f1) from ge248_1)
               clear hv248_1 ge248_1
               have HX248_1 := ak hx248_1
               have hv248_2 := hcc248 2 _ rfl
               rw [add_field _ _ 2 (by omega)] at hv248_2
               replace hv248_2 := Option.some.inj (hv248_2.symm.trans hx248_2)
               rw [hv248_2] at ge248_2
               have HL248_2 := ak (show Kd.R k36 36 _ _ _ _ ((rd_T40 x7_3 x8_2).f2) from ge248_2)
               clear hv248_2 ge248_2
               have HX248_2 := ak hx248_2
               have hv248_3 := hcc248 3 _ rfl
               rw [add_field _ _ 3 (by omega)] at hv248_3
               replace hv248_3 := Option.some.inj (hv248_3.symm.trans hx248_3)
               rw [hv248_3] at ge248_3
               have HL248_3 := ak (show Kd.R k45 45 _ _ _ _ ((rd_T40 x7_3 x8_2).f3) from ge248_3)
               clear hv248_3 ge248_3
               have HX248_3 := ak hx248_3
               clear hcc248 hce248
               have HR248_1 := ak hi248_1
               have HC248_1 := ak hl248_1
               clear hi248_1 hl248_1
               have HR248_2 := ak hi248_2
               have HC248_2 := ak hl248_2
               clear hi248_2 hl248_2
               have HR248_3 := ak hi248_3
               have HC248_3 := ak hl248_3
               clear hi248_3 hl248_3
               replace p248 := eq_true p248
               replace q248 := eq_true q248
               have p249 : 0 ≤ (x8_2 : Int) := of_decide_eq_true (by first | (with_reducible assumption) | assumption)
               have q249 : x8_2 < (x7_3.length : Int) := of_decide_eq_true (by first | (with_reducible assumption) | assumption)
               obtain ⟨ad249, A249_1, c249_1, A249_2, c249_2, A249_3, c249_3, e249, hx249_0, hx249_1, hx249_2, hx249_3, hl249_1, hi249_1, hl249_2, hi249_2, hl249_3, hi249_3⟩ := at_T40 (Kd.S_reads' HO_7.out).2.2 x8_2 p249 q249
               obtain rfl : ad248 = ad249 := (by injection e249)
               obtain ⟨ce249, hce249, hMe249, hcc249⟩ := Kd.S_get HO_7.out z40 x8_2 p249 (by first | exact q249 | exact of_decide_eq_true (by first | (with_reducible assumption) | assumption) | (have e_ := (Kd.S_reads' HO_7.out).1; omega))
               obtain ⟨ve249_1, ve249_2, ve249_3, rfl, ge249_1, ge249_2, ge249_3⟩ := k40_openM hMe249
               have hv249_1 := hcc249 1 _ rfl
               rw [add_field _ _ 1 (by omega)] at hv249_1
               replace hv249_1 := Option.some.inj (hv249_1.symm.trans hx249_1)
               rw [hv249_1] at ge249_1
               have HL249_1 := ak (show Kd.R (Kd.int .i64) 2 _ _ _ _ ((rd_T40 x7_3 x8_2).f1) from ge249_1)
               clear hv249_1 ge249_1
               have HX249_1 := ak hx249_1
               have hv249_2 := hcc249 2 _ rfl
               rw [add_field _ _ 2 (by omega)] at hv249_2
               replace hv249_2 := Option.some.inj (hv249_2.symm.trans hx249_2)
               rw [hv249_2] at ge249_2
               have HL249_2 := ak (show Kd.R k36 36 _ _ _ _ ((rd_T40 x7_3 x8_2).f2) from ge249_2)
               clear hv249_2 ge249_2
               have HX249_2 := ak hx249_2
               have hv249_3 := hcc249 3 _ rfl
               rw [add_field _ _ 3 (by omega)] at hv249_3
               replace hv249_3 := Option.some.inj (hv249_3.symm.trans hx249_3)
               rw [hv249_3] at ge249_3
               have HL249_3 := ak (show Kd.R k45 45 _ _ _ _ ((rd_T40 x7_3 x8_2).f3) from ge249_3)
               clear hv249_3 ge249_3
               have HX249_3 := ak hx249_3
               clear hcc249 hce249
               have HR249_1 := ak hi249_1
               have HC249_1 := ak hl249_1
               clear hi249_1 hl249_1
               have HR249_2 := ak hi249_2
               have HC249_2 := ak hl249_2
               clear hi249_2 hl249_2
               have HR249_3 := ak hi249_3
               have HC249_3 := ak hl249_3
               clear hi249_3 hl249_3
               replace p249 := eq_true p249
               replace q249 := eq_true q249
               have ea_ := Option.some.inj (hx248_1.symm.trans hx249_1)
               injection ea_ with ea_ en_ ec_
               subst ea_
               subst ec_
               clear en_
               have ea_ := Option.some.inj (hx248_2.symm.trans hx249_2)
               injection ea_ with ea_ en_ ec_
               subst ea_
               subst ec_
               clear en_
               have ea_ := Option.some.inj (hx248_3.symm.trans hx249_3)
               injection ea_ with ea_ en_ ec_
               subst ea_
               subst ec_
               clear en_
               have p250 : 0 ≤ (x9_3 : Int) := of_decide_eq_true (by first | (with_reducible assumption) | assumption)
               have q250 : x9_3 < (((rd_T40 x7_3 x8_2).f2).length : Int) := of_decide_eq_true (by first | (with_reducible assumption) | assumption)
               obtain ⟨ad250, e250, hx250_0, hx250_1, hx250_2⟩ := at_T36 (by repeat (first | (with_reducible exact HR249_2.out) | (with_reducible refine Kd.C_alloc ?_ _) | (with_reducible refine Kd.C_drewN ?_ _) | (with_reducible refine Kd.C_drew ?_) | exact HR249_2.out)) x9_3 p250 q250
               cases e250
               replace p250 := eq_true p250
               replace q250 := eq_true q250
               have p252 : 0 ≤ (x8_2 : Int) := of_decide_eq_true (by first | (with_reducible assumption) | assumption)
               have q252 : x8_2 < (x7_3.length : Int) := of_decide_eq_true (by first | (with_reducible assumption) | assumption)
               obtain ⟨ad252, A252_1, c252_1, A252_2, c252_2, A252_3, c252_3, e252, hx252_0, hx252_1, hx252_2, hx252_3, hl252_1, hi252_1, hl252_2, hi252_2, hl252_3, hi252_3⟩ := at_T40 (Kd.S_reads' HO_7.out).2.2 x8_2 p252 q252
               obtain rfl : ad248 = ad252 := (by injection e252)
               obtain ⟨ce252, hce252, hMe252, hcc252⟩ := Kd.S_get HO_7.out z40 x8_2 p252 (by first | exact q252 | exact of_decide_eq_true (by first | (with_reducible assumption) | assumption) | (have e_ := (Kd.S_reads' HO_7.out).1; omega))
               obtain ⟨ve252_1, ve252_2, ve252_3, rfl, ge252_1, ge252_2, ge252_3⟩ := k40_openM hMe252
               have hv252_1 := hcc252 1 _ rfl
               rw [add_field _ _ 1 (by omega)] at hv252_1
               replace hv252_1 := Option.some.inj (hv252_1.symm.trans hx252_1)
               rw [hv252_1] at ge252_1
               have HL252_1 := ak (show Kd.R (Kd.int .i64) 2 _ _ _ _ ((rd_T40 x7_3 x8_2).f1) from ge252_1)
               clear hv252_1 ge252_1
               have HX252_1 := ak hx252_1
               have hv252_2 := hcc252 2 _ rfl
               rw [add_field _ _ 2 (by omega)] at hv252_2
               replace hv252_2 := Option.some.inj (hv252_2.symm.trans hx252_2)
               rw [hv252_2] at ge252_2
               have HL252_2 := ak (show Kd.R k36 36 _ _ _ _ ((rd_T40 x7_3 x8_2).f2) from ge252_2)
               clear hv252_2 ge252_2
               have HX252_2 := ak hx252_2
               have hv252_3 := hcc252 3 _ rfl
               rw [add_field _ _ 3 (by omega)] at hv252_3
               replace hv252_3 := Option.some.inj (hv252_3.symm.trans hx252_3)
               rw [hv252_3] at ge252_3
               have HL252_3 := ak (show Kd.R k45 45 _ _ _ _ ((rd_T40 x7_3 x8_2).f3) from ge252_3)
               clear hv252_3 ge252_3
               have HX252_3 := ak hx252_3
               clear hcc252 hce252
               have HR252_1 := ak hi252_1
               have HC252_1 := ak hl252_1
               clear hi252_1 hl252_1
               have HR252_2 := ak hi252_2
               have HC252_2 := ak hl252_2
               clear hi252_2 hl252_2
               have HR252_3 := ak hi252_3
               have HC252_3 := ak hl252_3
               clear hi252_3 hl252_3
               replace p252 := eq_true p252
               replace q252 := eq_true q252
               have ea_ := Option.some.inj (hx248_1.symm.trans hx252_1)
               injection ea_ with ea_ en_ ec_
               subst ea_
               subst ec_
               clear en_
               have ea_ := Option.some.inj (hx248_2.symm.trans hx252_2)
               injection ea_ with ea_ en_ ec_
               subst ea_
               subst ec_
               clear en_
               have ea_ := Option.some.inj (hx248_3.symm.trans hx252_3)
               injection ea_ with ea_ en_ ec_
               subst ea_
               subst ec_
               clear en_
               have p253 : 0 ≤ (x9_3 : Int) := of_decide_eq_true (by first | (with_reducible assumption) | assumption)
               have q253 : x9_3 < (((rd_T40 x7_3 x8_2).f2).length : Int) := of_decide_eq_true (by first | (with_reducible assumption) | assumption)
               obtain ⟨ad253, e253, hx253_0, hx253_1, hx253_2⟩ := at_T36 (by repeat (first | (with_reducible exact HR252_2.out) | (with_reducible refine Kd.C_alloc ?_ _) | (with_reducible refine Kd.C_drewN ?_ _) | (with_reducible refine Kd.C_drew ?_) | exact HR252_2.out)) x9_3 p253 q253
               cases e253
               replace p253 := eq_true p253
               replace q253 := eq_true q253
               have p254 : 0 ≤ (x8_2 : Int) := of_decide_eq_true (by first | (with_reducible assumption) | assumption)
               have q254 : x8_2 < (x7_3.length : Int) := of_decide_eq_true (by first | (with_reducible assumption) | assumption)
               obtain ⟨ad254, A254_1, c254_1, A254_2, c254_2, A254_3, c254_3, e254, hx254_0, hx254_1, hx254_2, hx254_3, hl254_1, hi254_1, hl254_2, hi254_2, hl254_3, hi254_3⟩ := at_T40 (Kd.S_reads' HO_7.out).2.2 x8_2 p254 q254
               obtain rfl : ad248 = ad254 := (by injection e254)
               obtain ⟨ce254, hce254, hMe254, hcc254⟩ := Kd.S_get HO_7.out z40 x8_2 p254 (by first | exact q254 | exact of_decide_eq_true (by first | (with_reducible assumption) | assumption) | (have e_ := (Kd.S_reads' HO_7.out).1; omega))
               obtain ⟨ve254_1, ve254_2, ve254_3, rfl, ge254_1, ge254_2, ge254_3⟩ := k40_openM hMe254
               have hv254_1 := hcc254 1 _ rfl
               rw [add_field _ _ 1 (by omega)] at hv254_1
               replace hv254_1 := Option.some.inj (hv254_1.symm.trans hx254_1)
               rw [hv254_1] at ge254_1
               have HL254_1 := ak (show Kd.R (Kd.int .i64) 2 _ _ _ _ ((rd_T40 x7_3 x8_2).f1) from ge254_1)
               clear hv254_1 ge254_1
               have HX254_1 := ak hx254_1
               have hv254_2 := hcc254 2 _ rfl
               rw [add_field _ _ 2 (by omega)] at hv254_2
               replace hv254_2 := Option.some.inj (hv254_2.symm.trans hx254_2)
               rw [hv254_2] at ge254_2
               have HL254_2 := ak (show Kd.R k36 36 _ _ _ _ ((rd_T40 x7_3 x8_2).f2) from ge254_2)
               clear hv254_2 ge254_2
               have HX254_2 := ak hx254_2
               have hv254_3 := hcc254 3 _ rfl
               rw [add_field _ _ 3 (by omega)] at hv254_3
               replace hv254_3 := Option.some.inj (hv254_3.symm.trans hx254_3)
               rw [hv254_3] at ge254_3
               have HL254_3 := ak (show Kd.R k45 45 _ _ _ _ ((rd_T40 x7_3 x8_2).f3) from ge254_3)
               clear hv254_3 ge254_3
               have HX254_3 := ak hx254_3
               clear hcc254 hce254
               have HR254_1 := ak hi254_1
               have HC254_1 := ak hl254_1
               clear hi254_1 hl254_1
               have HR254_2 := ak hi254_2
               have HC254_2 := ak hl254_2
               clear hi254_2 hl254_2
               have HR254_3 := ak hi254_3
               have HC254_3 := ak hl254_3
               clear hi254_3 hl254_3
               replace p254 := eq_true p254
               replace q254 := eq_true q254
               have ea_ := Option.some.inj (hx248_1.symm.trans hx254_1)
               injection ea_ with ea_ en_ ec_
               subst ea_
               subst ec_
               clear en_
               have ea_ := Option.some.inj (hx248_2.symm.trans hx254_2)
               injection ea_ with ea_ en_ ec_
               subst ea_
               subst ec_
               clear en_
               have ea_ := Option.some.inj (hx248_3.symm.trans hx254_3)
               injection ea_ with ea_ en_ ec_
               subst ea_
               subst ec_
               clear en_
               have p24 : 0 ≤ (x9_3 : Int) := of_decide_eq_true (by first | (with_reducible assumption) | assumption)
               have q24 : (x9_3 : Int) < ((((rd_T40 x7_3 x8_2).f2).length : Int) : Int) := of_decide_eq_true (by first | (with_reducible assumption) | assumption)
               obtain ⟨go24, co24, eo24, gb24, gl24, cl24, HG24⟩ := Kd.R_form HL254_2.out (by omega)
               (first | cases eo24 | (injection eo24 with ea_ en_ ec_; (first | subst ea_ | (injection ea_ with ea_; subst ea_)); subst ec_; clear en_))
               have GB24 := ak gb24
               have GG24 := ak HG24
               clear gb24 gl24 HG24
               (first | simp only [add_plain] at hx253_0 | skip)
               (first | simp only [add_plain] at hx253_1 | skip)
               (first | simp only [add_plain] at hx253_2 | skip)
               obtain ⟨ce24, hcl24, hM24, hcc24, hfr24⟩ := Kd.R_elem HL254_2.out z36 (x9_3 : Int) p24 q24
               obtain rfl := k36_openM hM24
               have hx24_0 : wr.cell? ⟨go24, (x9_3 : Int).toNat * 3, none⟩ = some (.string ((rd_T36 ((rd_T40 x7_3 x8_2).f2) x9_3).f0)) := hcc24 0 _ rfl
               have hx24_1 : wr.cell? ⟨go24, (x9_3 : Int).toNat * 3 + 1, none⟩ = some (.int .i64 ((rd_T36 ((rd_T40 x7_3 x8_2).f2) x9_3).f1)) := hcc24 1 _ rfl
               have hx24_2 : wr.cell? ⟨go24, (x9_3 : Int).toNat * 3 + 2, none⟩ = some (.int .i64 ((rd_T36 ((rd_T40 x7_3 x8_2).f2) x9_3).f2)) := hcc24 2 _ rfl
               have hf24_0 : wr.frozen? ⟨go24, (x9_3 : Int).toNat * 3, none⟩ = false := hfr24 0
               have hf24_1 : wr.frozen? ⟨go24, (x9_3 : Int).toNat * 3 + 1, none⟩ = false := hfr24 1
               have hf24_2 : wr.frozen? ⟨go24, (x9_3 : Int).toNat * 3 + 2, none⟩ = false := hfr24 2
               clear hcl24 hcc24 hfr24 hM24
               replace p24 := eq_true p24
               replace q24 := eq_true q24
               have hq25 : (x8_2 : Int) < (x7_3.length : Int) := (by have h_ : (x8_2 : Int) < ((x7_3.length : Int) : Int) := of_decide_eq_true (by first | (with_reducible assumption) | assumption); first | exact h_ | (have e_ := (Kd.S_reads' HO_7.out).1; omega) | simpa only [List.length_set, List.length_set] using h_)
               obtain ⟨oki25, ce25, hcl25, hM25, hcc25, hok25, hbk25⟩ := Kd.S_borrow HO_7.out z40 (x8_2 : Int) (of_decide_eq_true (by first | (with_reducible assumption) | assumption)) hq25
               obtain ⟨ve25_1, ve25_2, ve25_3, rfl, ge25_1, ge25_2, ge25_3⟩ := k40_openM hM25
               have hv25 := hcc25 2 _ rfl
               rw [add_field _ _ 2 (by omega)] at hv25
               replace hv25 := Option.some.inj (hv25.symm.trans HX254_2.out)
               subst hv25
               clear hcc25 hcl25
               replace ge25_2 := (show Kd.R k36 36 _ _ _ _ ((rd_T40 x7_3 x8_2).f2) from ge25_2)
               obtain ⟨cf25, hcl25, hN25, hcc25, hfr25⟩ := Kd.R_elem ge25_2 z36 (x9_3 : Int) (of_decide_eq_true (by first | (with_reducible assumption) | assumption)) (by have h_ : (x9_3 : Int) < ((((rd_T40 x7_3 x8_2).f2).length : Int) : Int) := of_decide_eq_true (by first | (with_reducible assumption) | assumption); first | exact h_ | (have e_ := (Kd.R_reads' HR254_2.out).1; omega) | simpa using h_)
               obtain rfl := k36_openM hN25
               have HP25 := Kd.R_seg ge25_2 (x9_3 : Int) (of_decide_eq_true (by first | (with_reducible assumption) | assumption)) (by have h_ : (x9_3 : Int) < ((((rd_T40 x7_3 x8_2).f2).length : Int) : Int) := of_decide_eq_true (by first | (with_reducible assumption) | assumption); first | exact h_ | (have e_ := (Kd.R_reads' HR254_2.out).1; omega) | simpa using h_) (seg := [.string a2]) (j := 0) hcl25 hcc25 (show 1 ≤ 3 from by decide) (x' := (⟨a2, (rd_T36 ((rd_T40 x7_3 x8_2).f2) x9_3).f1, (rd_T36 ((rd_T40 x7_3 x8_2).f2) x9_3).f2⟩ : S36)) (k36_mkM _ _ _ (⟨a2, (rd_T36 ((rd_T40 x7_3 x8_2).f2) x9_3).f1, (rd_T36 ((rd_T40 x7_3 x8_2).f2) x9_3).f2⟩ : S36)) (fun _ hk => hk)
               clear hcl25 hcc25 hfr25 hN25
               as_aux_lemma =>
                go_wp2_with (first | ((with_reducible refine gate_store (t := 9) (p := 82) rfl ?_); (try (rw [drewN_self wr]; generalize hq_ : World.drewN wr _ = wr; have n0_ := ak (Kd.S_at hq_ HO_7.out); have n1_ := ak (Kd.R_at hq_ HL296.out); have n2_ := ak (below_at hq_ HB.out); clear hq_ HO_7 HL296 HB; have HO_7 := n0_; have HL296 := n1_; have HB := n2_; clear n0_ n1_ n2_; (try (have hq25 : (x8_2 : Int) < (x7_3.length : Int) := (by have h_ : (x8_2 : Int) < ((x7_3.length : Int) : Int) := of_decide_eq_true (by first | (with_reducible assumption) | assumption); first | exact h_ | (have e_ := (Kd.S_reads' HO_7.out).1; omega) | simpa only [List.length_set, List.length_set] using h_))); (try (obtain ⟨oki25, ce25, hcl25, hM25, hcc25, hok25, hbk25⟩ := Kd.S_borrow HO_7.out z40 (x8_2 : Int) (of_decide_eq_true (by first | (with_reducible assumption) | assumption)) hq25)); (try (obtain ⟨ve25_1, ve25_2, ve25_3, rfl, ge25_1, ge25_2, ge25_3⟩ := k40_openM hM25)); (try (have hv25 := hcc25 2 _ rfl)); (try (rw [add_field _ _ 2 (by omega)] at hv25)); (try (replace hv25 := Option.some.inj (hv25.symm.trans HX254_2.out))); (try (subst hv25)); (try (clear hcc25 hcl25)); (try (replace ge25_2 := (show Kd.R k36 36 _ _ _ _ ((rd_T40 x7_3 x8_2).f2) from ge25_2))); (try (obtain ⟨cf25, hcl25, hN25, hcc25, hfr25⟩ := Kd.R_elem ge25_2 z36 (x9_3 : Int) (of_decide_eq_true (by first | (with_reducible assumption) | assumption)) (by have h_ : (x9_3 : Int) < ((((rd_T40 x7_3 x8_2).f2).length : Int) : Int) := of_decide_eq_true (by first | (with_reducible assumption) | assumption); first | exact h_ | (have e_ := (Kd.R_reads' HR254_2.out).1; omega) | simpa using h_))); (try (obtain rfl := k36_openM hN25)); (try (have HP25 := Kd.R_seg ge25_2 (x9_3 : Int) (of_decide_eq_true (by first | (with_reducible assumption) | assumption)) (by have h_ : (x9_3 : Int) < ((((rd_T40 x7_3 x8_2).f2).length : Int) : Int) := of_decide_eq_true (by first | (with_reducible assumption) | assumption); first | exact h_ | (have e_ := (Kd.R_reads' HR254_2.out).1; omega) | simpa using h_) (seg := [.string a2]) (j := 0) hcl25 hcc25 (show 1 ≤ 3 from by decide) (x' := (⟨a2, (rd_T36 ((rd_T40 x7_3 x8_2).f2) x9_3).f1, (rd_T36 ((rd_T40 x7_3 x8_2).f2) x9_3).f2⟩ : S36)) (k36_mkM _ _ _ (⟨a2, (rd_T36 ((rd_T40 x7_3 x8_2).f2) x9_3).f1, (rd_T36 ((rd_T40 x7_3 x8_2).f2) x9_3).f2⟩ : S36)) (fun _ hk => hk))); (try (clear hcl25 hcc25 hfr25 hN25)))); refine store_event (t := 9) (p := 82) (v := ?vo_w26) (w1 := (wr.setCell ⟨go24, (x9_3 : Int).toNat * 3, none⟩ (.string a2))) ?hg ?ho ?hn ?hr ?_; (case ho => rfl); (case hg => rfl); (case hn => rfl); (case hr => first | (go_simp; done) | (go_simp; rfl)); intro w26 hw; have hg : wr.grownBy w26 (some go24) := (by rw [hw]; exact HP25.2); have hz_ : Kd.R k36 36 w26 w.heap.size oki25 (.slice (some ⟨go24, 0, none⟩) ((rd_T40 x7_3 x8_2).f2).length c248_2) y255 := (by rw [hw, Ny255.out]; exact HP25.1); have hp_ : Kd.S k40 40 w26 w.heap.size (fun _ => True) (.slice (some ad248) x7_3.length co15) y257 := (by rw [Ny257.out]; exact hbk25 hg (fun k_ e_ => by injection e_ with e_; subst e_; exact ge25_2.1 _ rfl) (k40_mkM _ _ _ (⟨(rd_T40 x7_3 x8_2).f0, (rd_T40 x7_3 x8_2).f1, y255, (rd_T40 x7_3 x8_2).f3⟩ : S40) (Kd.R_over' (v := (.slice (some ⟨go24, 0, none⟩) ((rd_T40 x7_3 x8_2).f2).length c248_2)) ge25_1 (Kd.R_typed ge25_2) (by decide) hg) hz_ (Kd.R_over' (v := (.slice (some ⟨go24, 0, none⟩) ((rd_T40 x7_3 x8_2).f2).length c248_2)) ge25_3 (Kd.R_typed ge25_2) (by decide) hg))); have hm_ := Kd.R_mono hz_ hok25; clear HP25 hbk25; have n0_ := ak (hp_); have n1_ := ak ((by rw [hw]; exact below_set (HB.out) GB24.out : Below w.heap.size w w26)); have n2_ := ak (hm_); have n3_ := ak ((Kd.R_reads' hm_).2.1); clear HO_7; clear HB; clear HL248_1; clear HL248_2; clear HL248_3; clear HL249_1; clear HL249_2; clear HL249_3; clear HL252_1; clear HL252_2; clear HL252_3; clear HL254_1; clear HL254_2; clear HL254_3; have HO_7 := n0_; have HB := n1_; have HL296 := n2_; have HC256 := n3_; clear n0_ n1_ n2_ n3_; clear hg hw hp_ hz_ hm_ hok25))
                repeat (go_quiet (first | ((with_reducible refine gate_store (t := 9) (p := 82) rfl ?_); (try (rw [drewN_self wr]; generalize hq_ : World.drewN wr _ = wr; have n0_ := ak (Kd.S_at hq_ HO_7.out); have n1_ := ak (Kd.R_at hq_ HL296.out); have n2_ := ak (below_at hq_ HB.out); clear hq_ HO_7 HL296 HB; have HO_7 := n0_; have HL296 := n1_; have HB := n2_; clear n0_ n1_ n2_; (try (have hq25 : (x8_2 : Int) < (x7_3.length : Int) := (by have h_ : (x8_2 : Int) < ((x7_3.length : Int) : Int) := of_decide_eq_true (by first | (with_reducible assumption) | assumption); first | exact h_ | (have e_ := (Kd.S_reads' HO_7.out).1; omega) | simpa only [List.length_set, List.length_set] using h_))); (try (obtain ⟨oki25, ce25, hcl25, hM25, hcc25, hok25, hbk25⟩ := Kd.S_borrow HO_7.out z40 (x8_2 : Int) (of_decide_eq_true (by first | (with_reducible assumption) | assumption)) hq25)); (try (obtain ⟨ve25_1, ve25_2, ve25_3, rfl, ge25_1, ge25_2, ge25_3⟩ := k40_openM hM25)); (try (have hv25 := hcc25 2 _ rfl)); (try (rw [add_field _ _ 2 (by omega)] at hv25)); (try (replace hv25 := Option.some.inj (hv25.symm.trans HX254_2.out))); (try (subst hv25)); (try (clear hcc25 hcl25)); (try (replace ge25_2 := (show Kd.R k36 36 _ _ _ _ ((rd_T40 x7_3 x8_2).f2) from ge25_2))); (try (obtain ⟨cf25, hcl25, hN25, hcc25, hfr25⟩ := Kd.R_elem ge25_2 z36 (x9_3 : Int) (of_decide_eq_true (by first | (with_reducible assumption) | assumption)) (by have h_ : (x9_3 : Int) < ((((rd_T40 x7_3 x8_2).f2).length : Int) : Int) := of_decide_eq_true (by first | (with_reducible assumption) | assumption); first | exact h_ | (have e_ := (Kd.R_reads' HR254_2.out).1; omega) | simpa using h_))); (try (obtain rfl := k36_openM hN25)); (try (have HP25 := Kd.R_seg ge25_2 (x9_3 : Int) (of_decide_eq_true (by first | (with_reducible assumption) | assumption)) (by have h_ : (x9_3 : Int) < ((((rd_T40 x7_3 x8_2).f2).length : Int) : Int) := of_decide_eq_true (by first | (with_reducible assumption) | assumption); first | exact h_ | (have e_ := (Kd.R_reads' HR254_2.out).1; omega) | simpa using h_) (seg := [.string a2]) (j := 0) hcl25 hcc25 (show 1 ≤ 3 from by decide) (x' := (⟨a2, (rd_T36 ((rd_T40 x7_3 x8_2).f2) x9_3).f1, (rd_T36 ((rd_T40 x7_3 x8_2).f2) x9_3).f2⟩ : S36)) (k36_mkM _ _ _ (⟨a2, (rd_T36 ((rd_T40 x7_3 x8_2).f2) x9_3).f1, (rd_T36 ((rd_T40 x7_3 x8_2).f2) x9_3).f2⟩ : S36)) (fun _ hk => hk))); (try (clear hcl25 hcc25 hfr25 hN25)))); refine store_event (t := 9) (p := 82) (v := ?vo_w26) (w1 := (wr.setCell ⟨go24, (x9_3 : Int).toNat * 3, none⟩ (.string a2))) ?hg ?ho ?hn ?hr ?_; (case ho => rfl); (case hg => rfl); (case hn => rfl); (case hr => first | (go_simp; done) | (go_simp; rfl)); intro w26 hw; have hg : wr.grownBy w26 (some go24) := (by rw [hw]; exact HP25.2); have hz_ : Kd.R k36 36 w26 w.heap.size oki25 (.slice (some ⟨go24, 0, none⟩) ((rd_T40 x7_3 x8_2).f2).length c248_2) y255 := (by rw [hw, Ny255.out]; exact HP25.1); have hp_ : Kd.S k40 40 w26 w.heap.size (fun _ => True) (.slice (some ad248) x7_3.length co15) y257 := (by rw [Ny257.out]; exact hbk25 hg (fun k_ e_ => by injection e_ with e_; subst e_; exact ge25_2.1 _ rfl) (k40_mkM _ _ _ (⟨(rd_T40 x7_3 x8_2).f0, (rd_T40 x7_3 x8_2).f1, y255, (rd_T40 x7_3 x8_2).f3⟩ : S40) (Kd.R_over' (v := (.slice (some ⟨go24, 0, none⟩) ((rd_T40 x7_3 x8_2).f2).length c248_2)) ge25_1 (Kd.R_typed ge25_2) (by decide) hg) hz_ (Kd.R_over' (v := (.slice (some ⟨go24, 0, none⟩) ((rd_T40 x7_3 x8_2).f2).length c248_2)) ge25_3 (Kd.R_typed ge25_2) (by decide) hg))); have hm_ := Kd.R_mono hz_ hok25; clear HP25 hbk25; have n0_ := ak (hp_); have n1_ := ak ((by rw [hw]; exact below_set (HB.out) GB24.out : Below w.heap.size w w26)); have n2_ := ak (hm_); have n3_ := ak ((Kd.R_reads' hm_).2.1); clear HO_7; clear HB; clear HL248_1; clear HL248_2; clear HL248_3; clear HL249_1; clear HL249_2; clear HL249_3; clear HL252_1; clear HL252_2; clear HL252_3; clear HL254_1; clear HL254_2; clear HL254_3; have HO_7 := n0_; have HB := n1_; have HL296 := n2_; have HC256 := n3_; clear n0_ n1_ n2_ n3_; clear hg hw hp_ hz_ hm_ hok25)); try go_wp2_with (first | ((with_reducible refine gate_store (t := 9) (p := 82) rfl ?_); (try (rw [drewN_self wr]; generalize hq_ : World.drewN wr _ = wr; have n0_ := ak (Kd.S_at hq_ HO_7.out); have n1_ := ak (Kd.R_at hq_ HL296.out); have n2_ := ak (below_at hq_ HB.out); clear hq_ HO_7 HL296 HB; have HO_7 := n0_; have HL296 := n1_; have HB := n2_; clear n0_ n1_ n2_; (try (have hq25 : (x8_2 : Int) < (x7_3.length : Int) := (by have h_ : (x8_2 : Int) < ((x7_3.length : Int) : Int) := of_decide_eq_true (by first | (with_reducible assumption) | assumption); first | exact h_ | (have e_ := (Kd.S_reads' HO_7.out).1; omega) | simpa only [List.length_set, List.length_set] using h_))); (try (obtain ⟨oki25, ce25, hcl25, hM25, hcc25, hok25, hbk25⟩ := Kd.S_borrow HO_7.out z40 (x8_2 : Int) (of_decide_eq_true (by first | (with_reducible assumption) | assumption)) hq25)); (try (obtain ⟨ve25_1, ve25_2, ve25_3, rfl, ge25_1, ge25_2, ge25_3⟩ := k40_openM hM25)); (try (have hv25 := hcc25 2 _ rfl)); (try (rw [add_field _ _ 2 (by omega)] at hv25)); (try (replace hv25 := Option.some.inj (hv25.symm.trans HX254_2.out))); (try (subst hv25)); (try (clear hcc25 hcl25)); (try (replace ge25_2 := (show Kd.R k36 36 _ _ _ _ ((rd_T40 x7_3 x8_2).f2) from ge25_2))); (try (obtain ⟨cf25, hcl25, hN25, hcc25, hfr25⟩ := Kd.R_elem ge25_2 z36 (x9_3 : Int) (of_decide_eq_true (by first | (with_reducible assumption) | assumption)) (by have h_ : (x9_3 : Int) < ((((rd_T40 x7_3 x8_2).f2).length : Int) : Int) := of_decide_eq_true (by first | (with_reducible assumption) | assumption); first | exact h_ | (have e_ := (Kd.R_reads' HR254_2.out).1; omega) | simpa using h_))); (try (obtain rfl := k36_openM hN25)); (try (have HP25 := Kd.R_seg ge25_2 (x9_3 : Int) (of_decide_eq_true (by first | (with_reducible assumption) | assumption)) (by have h_ : (x9_3 : Int) < ((((rd_T40 x7_3 x8_2).f2).length : Int) : Int) := of_decide_eq_true (by first | (with_reducible assumption) | assumption); first | exact h_ | (have e_ := (Kd.R_reads' HR254_2.out).1; omega) | simpa using h_) (seg := [.string a2]) (j := 0) hcl25 hcc25 (show 1 ≤ 3 from by decide) (x' := (⟨a2, (rd_T36 ((rd_T40 x7_3 x8_2).f2) x9_3).f1, (rd_T36 ((rd_T40 x7_3 x8_2).f2) x9_3).f2⟩ : S36)) (k36_mkM _ _ _ (⟨a2, (rd_T36 ((rd_T40 x7_3 x8_2).f2) x9_3).f1, (rd_T36 ((rd_T40 x7_3 x8_2).f2) x9_3).f2⟩ : S36)) (fun _ hk => hk))); (try (clear hcl25 hcc25 hfr25 hN25)))); refine store_event (t := 9) (p := 82) (v := ?vo_w26) (w1 := (wr.setCell ⟨go24, (x9_3 : Int).toNat * 3, none⟩ (.string a2))) ?hg ?ho ?hn ?hr ?_; (case ho => rfl); (case hg => rfl); (case hn => rfl); (case hr => first | (go_simp; done) | (go_simp; rfl)); intro w26 hw; have hg : wr.grownBy w26 (some go24) := (by rw [hw]; exact HP25.2); have hz_ : Kd.R k36 36 w26 w.heap.size oki25 (.slice (some ⟨go24, 0, none⟩) ((rd_T40 x7_3 x8_2).f2).length c248_2) y255 := (by rw [hw, Ny255.out]; exact HP25.1); have hp_ : Kd.S k40 40 w26 w.heap.size (fun _ => True) (.slice (some ad248) x7_3.length co15) y257 := (by rw [Ny257.out]; exact hbk25 hg (fun k_ e_ => by injection e_ with e_; subst e_; exact ge25_2.1 _ rfl) (k40_mkM _ _ _ (⟨(rd_T40 x7_3 x8_2).f0, (rd_T40 x7_3 x8_2).f1, y255, (rd_T40 x7_3 x8_2).f3⟩ : S40) (Kd.R_over' (v := (.slice (some ⟨go24, 0, none⟩) ((rd_T40 x7_3 x8_2).f2).length c248_2)) ge25_1 (Kd.R_typed ge25_2) (by decide) hg) hz_ (Kd.R_over' (v := (.slice (some ⟨go24, 0, none⟩) ((rd_T40 x7_3 x8_2).f2).length c248_2)) ge25_3 (Kd.R_typed ge25_2) (by decide) hg))); have hm_ := Kd.R_mono hz_ hok25; clear HP25 hbk25; have n0_ := ak (hp_); have n1_ := ak ((by rw [hw]; exact below_set (HB.out) GB24.out : Below w.heap.size w w26)); have n2_ := ak (hm_); have n3_ := ak ((Kd.R_reads' hm_).2.1); clear HO_7; clear HB; clear HL248_1; clear HL248_2; clear HL248_3; clear HL249_1; clear HL249_2; clear HL249_3; clear HL252_1; clear HL252_2; clear HL252_3; clear HL254_1; clear HL254_2; clear HL254_3; have HO_7 := n0_; have HB := n1_; have HL296 := n2_; have HC256 := n3_; clear n0_ n1_ n2_ n3_; clear hg hw hp_ hz_ hm_ hok25)))
                (try simp only [← hl7_3])
                go_roundg k3
                case measure => have := HJ3.out; have := HK2.out; have := HK3.out; omega
                case rel => exact ⟨(y257), (wrap64 (x9_3 + 1)), (by first | rfl | (simp; done) | (simp [*]; done)), H', ⟨by have := HJ3.out; have := HK2.out; have := HK3.out; omega⟩, ⟨by (try simp only [hl7_3]); (with_reducible repeat (first | apply Kd.S_alloc | apply Kd.S_drewN | apply Kd.S_drew)); exact HO_7.out⟩, ⟨by repeat (first | (with_reducible first | exact HB.out | apply below_alloc | apply pw_below_drewN | apply below_drew1) | exact HB.out)⟩⟩
              ·rw [if_neg c23] at H
               have c23b0 : (((rd_T36 ((rd_T40 x7_3 x8_2).f2) x9_3).f0).toList == a1.toList) = false := beq_eq_false_iff_ne.mpr c23
               have c23b1 : (((rd_T36 ((rd_T40 x7_3 x8_2).f2) x9_3).f0).toList != a1.toList) = true := bne_iff_ne.mpr c23
               have H' := ak H
               clear H
               have p248 : 0 ≤ (x8_2 : Int) := of_decide_eq_true (by first | (with_reducible assumption) | assumption)
               have q248 : x8_2 < (x7_3.length : Int) := of_decide_eq_true (by first | (with_reducible assumption) | assumption)
               obtain ⟨ad248, A248_1, c248_1, A248_2, c248_2, A248_3, c248_3, e248, hx248_0, hx248_1, hx248_2, hx248_3, hl248_1, hi248_1, hl248_2, hi248_2, hl248_3, hi248_3⟩ := at_T40 (Kd.S_reads' HO_7.out).2.2 x8_2 p248 q248
               cases e248
               obtain ⟨ce248, hce248, hMe248, hcc248⟩ := Kd.S_get HO_7.out z40 x8_2 p248 (by first | exact q248 | exact of_decide_eq_true (by first | (with_reducible assumption) | assumption) | (have e_ := (Kd.S_reads' HO_7.out).1; omega))
               obtain ⟨ve248_1, ve248_2, ve248_3, rfl, ge248_1, ge248_2, ge248_3⟩ := k40_openM hMe248
               have hv248_1 := hcc248 1 _ rfl
               rw [add_field _ _ 1 (by omega)] at hv248_1
               replace hv248_1 := Option.some.inj (hv248_1.symm.trans hx248_1)
               rw [hv248_1] at ge248_1
               have HL248_1 := ak (show Kd.R (Kd.int .i64) 2 _ _ _ _ ((rd_T40 x7_3 x8_2).f1) from ge248_1)
               clear hv248_1 ge248_1
               have HX248_1 := ak hx248_1
               have hv248_2 := hcc248 2 _ rfl
               rw [add_field _ _ 2 (by omega)] at hv248_2
               replace hv248_2 := Option.some.inj (hv248_2.symm.trans hx248_2)
               rw [hv248_2] at ge248_2
               have HL248_2 := ak (show Kd.R k36 36 _ _ _ _ ((rd_T40 x7_3 x8_2).f2) from ge248_2)
               clear hv248_2 ge248_2
               have HX248_2 := ak hx248_2
               have hv248_3 := hcc248 3 _ rfl
               rw [add_field _ _ 3 (by omega)] at hv248_3
               replace hv248_3 := Option.some.inj (hv248_3.symm.trans hx248_3)
               rw [hv248_3] at ge248_3
               have HL248_3 := ak (show Kd.R k45 45 _ _ _ _ ((rd_T40 x7_3 x8_2).f3) from ge248_3)
               clear hv248_3 ge248_3
               have HX248_3 := ak hx248_3
               clear hcc248 hce248
               have HR248_1 := ak hi248_1
               have HC248_1 := ak hl248_1
               clear hi248_1 hl248_1
               have HR248_2 := ak hi248_2
               have HC248_2 := ak hl248_2
               clear hi248_2 hl248_2
               have HR248_3 := ak hi248_3
               have HC248_3 := ak hl248_3
               clear hi248_3 hl248_3
               replace p248 := eq_true p248
               replace q248 := eq_true q248
               have p249 : 0 ≤ (x8_2 : Int) := of_decide_eq_true (by first | (with_reducible assumption) | assumption)
               have q249 : x8_2 < (x7_3.length : Int) := of_decide_eq_true (by first | (with_reducible assumption) | assumption)
               obtain ⟨ad249, A249_1, c249_1, A249_2, c249_2, A249_3, c249_3, e249, hx249_0, hx249_1, hx249_2, hx249_3, hl249_1, hi249_1, hl249_2, hi249_2, hl249_3, hi249_3⟩ := at_T40 (Kd.S_reads' HO_7.out).2.2 x8_2 p249 q249
               obtain rfl : ad248 = ad249 := (by injection e249)
               obtain ⟨ce249, hce249, hMe249, hcc249⟩ := Kd.S_get HO_7.out z40 x8_2 p249 (by first | exact q249 | exact of_decide_eq_true (by first | (with_reducible assumption) | assumption) | (have e_ := (Kd.S_reads' HO_7.out).1; omega))
               obtain ⟨ve249_1, ve249_2, ve249_3, rfl, ge249_1, ge249_2, ge249_3⟩ := k40_openM hMe249
               have hv249_1 := hcc249 1 _ rfl
               rw [add_field _ _ 1 (by omega)] at hv249_1
               replace hv249_1 := Option.some.inj (hv249_1.symm.trans hx249_1)
               rw [hv249_1] at ge249_1
               have HL249_1 := ak (show Kd.R (Kd.int .i64) 2 _ _ _ _ ((rd_T40 x7_3 x8_2).f1) from ge249_1)
               clear hv249_1 ge249_1
               have HX249_1 := ak hx249_1
               have hv249_2 := hcc249 2 _ rfl
               rw [add_field _ _ 2 (by omega)] at hv249_2
               replace hv249_2 := Option.some.inj (hv249_2.symm.trans hx249_2)
               rw [hv249_2] at ge249_2
               have HL249_2 := ak (show Kd.R k36 36 _ _ _ _ ((rd_T40 x7_3 x8_2).f2) from ge249_2)
               clear hv249_2 ge249_2
               have HX249_2 := ak hx249_2
               have hv249_3 := hcc249 3 _ rfl
               rw [add_field _ _ 3 (by omega)] at hv249_3
               replace hv249_3 := Option.some.inj (hv249_3.symm.trans hx249_3)
               rw [hv249_3] at ge249_3
               have HL249_3 := ak (show Kd.R k45 45 _ _ _ _ ((rd_T40 x7_3 x8_2).f3) from ge249_3)
               clear hv249_3 ge249_3
               have HX249_3 := ak hx249_3
               clear hcc249 hce249
               have HR249_1 := ak hi249_1
               have HC249_1 := ak hl249_1
               clear hi249_1 hl249_1
               have HR249_2 := ak hi249_2
               have HC249_2 := ak hl249_2
               clear hi249_2 hl249_2
               have HR249_3 := ak hi249_3
               have HC249_3 := ak hl249_3
               clear hi249_3 hl249_3
               replace p249 := eq_true p249
               replace q249 := eq_true q249
               have ea_ := Option.some.inj (hx248_1.symm.trans hx249_1)
               injection ea_ with ea_ en_ ec_
               subst ea_
               subst ec_
               clear en_
               have ea_ := Option.some.inj (hx248_2.symm.trans hx249_2)
               injection ea_ with ea_ en_ ec_
               subst ea_
               subst ec_
               clear en_
               have ea_ := Option.some.inj (hx248_3.symm.trans hx249_3)
               injection ea_ with ea_ en_ ec_
               subst ea_
               subst ec_
               clear en_
               have p250 : 0 ≤ (x9_3 : Int) := of_decide_eq_true (by first | (with_reducible assumption) | assumption)
               have q250 : x9_3 < (((rd_T40 x7_3 x8_2).f2).length : Int) := of_decide_eq_true (by first | (with_reducible assumption) | assumption)
               obtain ⟨ad250, e250, hx250_0, hx250_1, hx250_2⟩ := at_T36 (by repeat (first | (with_reducible exact HR249_2.out) | (with_reducible refine Kd.C_alloc ?_ _) | (with_reducible refine Kd.C_drewN ?_ _) | (with_reducible refine Kd.C_drew ?_) | exact HR249_2.out)) x9_3 p250 q250
               cases e250
               replace p250 := eq_true p250
               replace q250 := eq_true q250
               have p252 : 0 ≤ (x8_2 : Int) := of_decide_eq_true (by first | (with_reducible assumption) | assumption)
               have q252 : x8_2 < (x7_3.length : Int) := of_decide_eq_true (by first | (with_reducible assumption) | assumption)
               obtain ⟨ad252, A252_1, c252_1, A252_2, c252_2, A252_3, c252_3, e252, hx252_0, hx252_1, hx252_2, hx252_3, hl252_1, hi252_1, hl252_2, hi252_2, hl252_3, hi252_3⟩ := at_T40 (Kd.S_reads' HO_7.out).2.2 x8_2 p252 q252
               obtain rfl : ad248 = ad252 := (by injection e252)
               obtain ⟨ce252, hce252, hMe252, hcc252⟩ := Kd.S_get HO_7.out z40 x8_2 p252 (by first | exact q252 | exact of_decide_eq_true (by first | (with_reducible assumption) | assumption) | (have e_ := (Kd.S_reads' HO_7.out).1; omega))
               obtain ⟨ve252_1, ve252_2, ve252_3, rfl, ge252_1, ge252_2, ge252_3⟩ := k40_openM hMe252
               have hv252_1 := hcc252 1 _ rfl
               rw [add_field _ _ 1 (by omega)] at hv252_1
               replace hv252_1 := Option.some.inj (hv252_1.symm.trans hx252_1)
               rw [hv252_1] at ge252_1
               have HL252_1 := ak (show Kd.R (Kd.int .i64) 2 _ _ _ _ ((rd_T40 x7_3 x8_2).f1) from ge252_1)
               clear hv252_1 ge252_1
               have HX252_1 := ak hx252_1
               have hv252_2 := hcc252 2 _ rfl
               rw [add_field _ _ 2 (by omega)] at hv252_2
               replace hv252_2 := Option.some.inj (hv252_2.symm.trans hx252_2)
               rw [hv252_2] at ge252_2
               have HL252_2 := ak (show Kd.R k36 36 _ _ _ _ ((rd_T40 x7_3 x8_2).f2) from ge252_2)
               clear hv252_2 ge252_2
               have HX252_2 := ak hx252_2
               have hv252_3 := hcc252 3 _ rfl
               rw [add_field _ _ 3 (by omega)] at hv252_3
               replace hv252_3 := Option.some.inj (hv252_3.symm.trans hx252_3)
               rw [hv252_3] at ge252_3
               have HL252_3 := ak (show Kd.R k45 45 _ _ _ _ ((rd_T40 x7_3 x8_2).f3) from ge252_3)
               clear hv252_3 ge252_3
               have HX252_3 := ak hx252_3
               clear hcc252 hce252
               have HR252_1 := ak hi252_1
               have HC252_1 := ak hl252_1
               clear hi252_1 hl252_1
               have HR252_2 := ak hi252_2
               have HC252_2 := ak hl252_2
               clear hi252_2 hl252_2
               have HR252_3 := ak hi252_3
               have HC252_3 := ak hl252_3
               clear hi252_3 hl252_3
               replace p252 := eq_true p252
               replace q252 := eq_true q252
               have ea_ := Option.some.inj (hx248_1.symm.trans hx252_1)
               injection ea_ with ea_ en_ ec_
               subst ea_
               subst ec_
               clear en_
               have ea_ := Option.some.inj (hx248_2.symm.trans hx252_2)
               injection ea_ with ea_ en_ ec_
               subst ea_
               subst ec_
               clear en_
               have ea_ := Option.some.inj (hx248_3.symm.trans hx252_3)
               injection ea_ with ea_ en_ ec_
               subst ea_
               subst ec_
               clear en_
               have p253 : 0 ≤ (x9_3 : Int) := of_decide_eq_true (by first | (with_reducible assumption) | assumption)
               have q253 : x9_3 < (((rd_T40 x7_3 x8_2).f2).length : Int) := of_decide_eq_true (by first | (with_reducible assumption) | assumption)
               obtain ⟨ad253, e253, hx253_0, hx253_1, hx253_2⟩ := at_T36 (by repeat (first | (with_reducible exact HR252_2.out) | (with_reducible refine Kd.C_alloc ?_ _) | (with_reducible refine Kd.C_drewN ?_ _) | (with_reducible refine Kd.C_drew ?_) | exact HR252_2.out)) x9_3 p253 q253
               cases e253
               replace p253 := eq_true p253
               replace q253 := eq_true q253
               as_aux_lemma =>
                go_wp2
                repeat (go_quiet (fail); try go_wp2)
                (try simp only [← hl7_3])
                go_roundg k3
                case measure => have := HJ3.out; have := HK2.out; have := HK3.out; omega
                case rel => exact ⟨(x7_3), (wrap64 (x9_3 + 1)), (by first | rfl | (simp; done) | (simp [*]; done)), H', ⟨by have := HJ3.out; have := HK2.out; have := HK3.out; omega⟩, ⟨by (try simp only [hl7_3]); (with_reducible repeat (first | apply Kd.S_alloc | apply Kd.S_drewN | apply Kd.S_drew)); exact HO_7.out⟩, ⟨by repeat (first | (with_reducible first | exact HB.out | apply below_alloc | apply pw_below_drewN | apply below_drew1) | exact HB.out)⟩⟩
            ·rw [if_neg c19] at H
             exact absurd H (by simp)
           ·rw [if_neg c18] at H
            have c18b0 : decide (x9_3 < (((rd_T40 x7_3 x8_2).f2).length : Int)) = false := decide_eq_false c18
            (try simp only [hl7_3] at c18b0)
            clear c18
            have H' := ak H
            clear H
            have p248 : 0 ≤ (x8_2 : Int) := of_decide_eq_true (by first | (with_reducible assumption) | assumption)
            have q248 : x8_2 < (x7_3.length : Int) := of_decide_eq_true (by first | (with_reducible assumption) | assumption)
            obtain ⟨ad248, A248_1, c248_1, A248_2, c248_2, A248_3, c248_3, e248, hx248_0, hx248_1, hx248_2, hx248_3, hl248_1, hi248_1, hl248_2, hi248_2, hl248_3, hi248_3⟩ := at_T40 (Kd.S_reads' HO_7.out).2.2 x8_2 p248 q248
            cases e248
            obtain ⟨ce248, hce248, hMe248, hcc248⟩ := Kd.S_get HO_7.out z40 x8_2 p248 (by first | exact q248 | exact of_decide_eq_true (by first | (with_reducible assumption) | assumption) | (have e_ := (Kd.S_reads' HO_7.out).1; omega))
            obtain ⟨ve248_1, ve248_2, ve248_3, rfl, ge248_1, ge248_2, ge248_3⟩ := k40_openM hMe248
            have hv248_1 := hcc248 1 _ rfl
            rw [add_field _ _ 1 (by omega)] at hv248_1
            replace hv248_1 := Option.some.inj (hv248_1.symm.trans hx248_1)
            rw [hv248_1] at ge248_1
            have HL248_1 := ak (show Kd.R (Kd.int .i64) 2 _ _ _ _ ((rd_T40 x7_3 x8_2).f1) from ge248_1)
            clear hv248_1 ge248_1
            have HX248_1 := ak hx248_1
            have hv248_2 := hcc248 2 _ rfl
            rw [add_field _ _ 2 (by omega)] at hv248_2
            replace hv248_2 := Option.some.inj (hv248_2.symm.trans hx248_2)
            rw [hv248_2] at ge248_2
            have HL248_2 := ak (show Kd.R k36 36 _ _ _ _ ((rd_T40 x7_3 x8_2).f2) from ge248_2)
            clear hv248_2 ge248_2
            have HX248_2 := ak hx248_2
            have hv248_3 := hcc248 3 _ rfl
            rw [add_field _ _ 3 (by omega)] at hv248_3
            replace hv248_3 := Option.some.inj (hv248_3.symm.trans hx248_3)
            rw [hv248_3] at ge248_3
            have HL248_3 := ak (show Kd.R k45 45 _ _ _ _ ((rd_T40 x7_3 x8_2).f3) from ge248_3)
            clear hv248_3 ge248_3
            have HX248_3 := ak hx248_3
            clear hcc248 hce248
            have HR248_1 := ak hi248_1
            have HC248_1 := ak hl248_1
            clear hi248_1 hl248_1
            have HR248_2 := ak hi248_2
            have HC248_2 := ak hl248_2
            clear hi248_2 hl248_2
            have HR248_3 := ak hi248_3
            have HC248_3 := ak hl248_3
            clear hi248_3 hl248_3
            replace p248 := eq_true p248
            replace q248 := eq_true q248
            go_wp2
            repeat (go_quiet (fail); try go_wp2)
            go_loopg [10] k3 (fun kq v10 w' => ∃ (x7_4 : List (S40)) (x10_4 : Int), v10 = .int .i64 x10_4 ∧ Aside0 (LNa.l2 kq l0 a1 a2 x7_4 x8_2 x10_4 = some r) ∧ Aside0 (kq ≤ k3) ∧ Aside0 (Kd.S k40 40 w' w.heap.size (fun _ => True) (.slice (some ad248) x7_3.length co15) x7_4) ∧ Aside0 (Below w.heap.size w w'))
            case atStart => exact ⟨(x7_3), (0), (by first | rfl | (simp; done) | (simp [*]; done)), H', ⟨Nat.le_refl _⟩, ⟨by (try simp only [hl7_3]); (with_reducible repeat (first | apply Kd.S_alloc | apply Kd.S_drewN | apply Kd.S_drew)); exact HO_7.out⟩, ⟨by repeat (first | (with_reducible first | exact HB.out | apply below_alloc | apply pw_below_drewN | apply below_drew1) | exact HB.out)⟩⟩
            case round =>
             clear H'
             try clear c1
             try clear c2
             try clear p2
             try clear q2
             try clear hx2
             try clear p6
             try clear c18
             try clear c18b0
             try clear c19
             try clear c20
             try clear c20b0
             try clear c20b1
             try clear c23
             try clear c23b0
             try clear c23b1
             try clear c24
             try clear p24
             try clear q24
             try clear hx24
             try clear hf24
             try clear c25
             try clear p25
             try clear q25
             try clear hx25
             try clear hx248_0
             try clear hx248_1
             try clear hx248_2
             try clear hx248_3
             try clear hx249_0
             try clear hx249_1
             try clear hx249_2
             try clear hx249_3
             try clear hx24_0
             try clear hx24_1
             try clear hx24_2
             try clear hx250_0
             try clear hx250_1
             try clear hx250_2
             try clear hx252_0
             try clear hx252_1
             try clear hx252_2
             try clear hx252_3
             try clear hx253_0
             try clear hx253_1
             try clear hx253_2
             try clear hx254_0
             try clear hx254_1
             try clear hx254_2
             try clear hx254_3
             try clear p24
             try clear p248
             try clear p249
             try clear p250
             try clear p252
             try clear p253
             try clear p254
             try clear q24
             try clear q248
             try clear q249
             try clear q250
             try clear q252
             try clear q253
             try clear q254
             obtain ⟨x7_4, x10_4, rfl, HA, HK4, HO_7, HB⟩ := hrel
             have hl7_4 := (Kd.S_reads' HO_7.out).1
             rw [hl7_4] at HO_7
             (try simp only [hl7_4])
             cases gk with
             | zero => exact absurd HA.out (by simp [LNa.l2])
             | succ k4 =>
              have H := HA.out
              clear HA
              simp only [LNa.l2] at H
              by_cases c27 : 0 ≤ x8_2
              ·rw [if_pos c27] at H
               have c27b0 : decide (0 ≤ x8_2) = true := decide_eq_true c27
               clear c27
               by_cases c28 : x8_2 < (x7_4.length : Int)
               ·rw [if_pos c28] at H
                have c28b0 : decide (x8_2 < (x7_4.length : Int)) = true := decide_eq_true c28
                (try simp only [hl7_3, hl248_1, hl248_2, hl248_3, hl7_4] at c28b0)
                clear c28
                by_cases c29 : x10_4 < (((rd_T40 x7_4 x8_2).f3).length : Int)
                ·rw [if_pos c29] at H
                 have c29b0 : decide (x10_4 < (((rd_T40 x7_4 x8_2).f3).length : Int)) = true := decide_eq_true c29
                 (try simp only [hl7_3, hl248_1, hl248_2, hl248_3, hl7_4] at c29b0)
                 clear c29
                 by_cases c30 : 0 ≤ x10_4
                 ·rw [if_pos c30] at H
                  have c30b0 : decide (0 ≤ x10_4) = true := decide_eq_true c30
                  clear c30
                  by_cases c31 : ((rd_T45 ((rd_T40 x7_4 x8_2).f3) x10_4).f2).toList = a2.toList
                  ·rw [if_pos c31] at H
                   have c31b0 : (((rd_T45 ((rd_T40 x7_4 x8_2).f3) x10_4).f2).toList == a2.toList) = true := beq_iff_eq.mpr c31
                   have c31b1 : (((rd_T45 ((rd_T40 x7_4 x8_2).f3) x10_4).f2).toList != a2.toList) = false := bne_eq_false_iff_eq.mpr c31
                   clear c31
                   replace H := Option.bind_eq_some_iff.mp H
                   obtain ⟨t261, A320, H⟩ := H
                   replace H : (some t261) = some r := H
                   have A32 := ak A320
                   clear A320
                   obtain rfl := Option.some.inj H
                   have p258 : 0 ≤ (x8_2 : Int) := of_decide_eq_true (by first | (with_reducible assumption) | assumption)
                   have q258 : x8_2 < (x7_4.length : Int) := of_decide_eq_true (by first | (with_reducible assumption) | assumption)
                   obtain ⟨ad258, A258_1, c258_1, A258_2, c258_2, A258_3, c258_3, e258, hx258_0, hx258_1, hx258_2, hx258_3, hl258_1, hi258_1, hl258_2, hi258_2, hl258_3, hi258_3⟩ := at_T40 (Kd.S_reads' HO_7.out).2.2 x8_2 p258 q258
                   obtain rfl : ad248 = ad258 := (by injection e258)
                   obtain ⟨ce258, hce258, hMe258, hcc258⟩ := Kd.S_get HO_7.out z40 x8_2 p258 (by first | exact q258 | exact of_decide_eq_true (by first | (with_reducible assumption) | assumption) | (have e_ := (Kd.S_reads' HO_7.out).1; omega))
                   obtain ⟨ve258_1, ve258_2, ve258_3, rfl, ge258_1, ge258_2, ge258_3⟩ := k40_openM hMe258
                   have hv258_1 := hcc258 1 _ rfl
                   rw [add_field _ _ 1 (by omega)] at hv258_1
                   replace hv258_1 := Option.some.inj (hv258_1.symm.trans hx258_1)
                   rw [hv258_1] at ge258_1
                   have HL258_1 := ak (show Kd.R (Kd.int .i64) 2 _ _ _ _ ((rd_T40 x7_4 x8_2).f1) from ge258_1)
                   clear hv258_1 ge258_1
                   have HX258_1 := ak hx258_1
                   have hv258_2 := hcc258 2 _ rfl
                   rw [add_field _ _ 2 (by omega)] at hv258_2
                   replace hv258_2 := Option.some.inj (hv258_2.symm.trans hx258_2)
                   rw [hv258_2] at ge258_2
                   have HL258_2 := ak (show Kd.R k36 36 _ _ _ _ ((rd_T40 x7_4 x8_2).f2) from ge258_2)
                   clear hv258_2 ge258_2
                   have HX258_2 := ak hx258_2
                   have hv258_3 := hcc258 3 _ rfl
                   rw [add_field _ _ 3 (by omega)] at hv258_3
                   replace hv258_3 := Option.some.inj (hv258_3.symm.trans hx258_3)
                   rw [hv258_3] at ge258_3
                   have HL258_3 := ak (show Kd.R k45 45 _ _ _ _ ((rd_T40 x7_4 x8_2).f3) from ge258_3)
                   clear hv258_3 ge258_3
                   have HX258_3 := ak hx258_3
                   clear hcc258 hce258
                   have HR258_1 := ak hi258_1
                   have HC258_1 := ak hl258_1
                   clear hi258_1 hl258_1
                   have HR258_2 := ak hi258_2
                   have HC258_2 := ak hl258_2
                   clear hi258_2 hl258_2
                   have HR258_3 := ak hi258_3
                   have HC258_3 := ak hl258_3
                   clear hi258_3 hl258_3
                   replace p258 := eq_true p258
                   replace q258 := eq_true q258
                   have p259 : 0 ≤ (x8_2 : Int) := of_decide_eq_true (by first | (with_reducible assumption) | assumption)
                   have q259 : x8_2 < (x7_4.length : Int) := of_decide_eq_true (by first | (with_reducible assumption) | assumption)
                   obtain ⟨ad259, A259_1, c259_1, A259_2, c259_2, A259_3, c259_3, e259, hx259_0, hx259_1, hx259_2, hx259_3, hl259_1, hi259_1, hl259_2, hi259_2, hl259_3, hi259_3⟩ := at_T40 (Kd.S_reads' HO_7.out).2.2 x8_2 p259 q259
                   obtain rfl : ad248 = ad259 := (by injection e259)
                   obtain ⟨ce259, hce259, hMe259, hcc259⟩ := Kd.S_get HO_7.out z40 x8_2 p259 (by first | exact q259 | exact of_decide_eq_true (by first | (with_reducible assumption) | assumption) | (have e_ := (Kd.S_reads' HO_7.out).1; omega))
                   obtain ⟨ve259_1, ve259_2, ve259_3, rfl, ge259_1, ge259_2, ge259_3⟩ := k40_openM hMe259
                   have hv259_1 := hcc259 1 _ rfl
                   rw [add_field _ _ 1 (by omega)] at hv259_1
                   replace hv259_1 := Option.some.inj (hv259_1.symm.trans hx259_1)
                   rw [hv259_1] at ge259_1
                   have HL259_1 := ak (show Kd.R (Kd.int .i64) 2 _ _ _ _ ((rd_T40 x7_4 x8_2).f1) from ge259_1)
                   clear hv259_1 ge259_1
                   have HX259_1 := ak hx259_1
                   have hv259_2 := hcc259 2 _ rfl
                   rw [add_field _ _ 2 (by omega)] at hv259_2
                   replace hv259_2 := Option.some.inj (hv259_2.symm.trans hx259_2)
                   rw [hv259_2] at ge259_2
                   have HL259_2 := ak (show Kd.R k36 36 _ _ _ _ ((rd_T40 x7_4 x8_2).f2) from ge259_2)
                   clear hv259_2 ge259_2
                   have HX259_2 := ak hx259_2
                   have hv259_3 := hcc259 3 _ rfl
                   rw [add_field _ _ 3 (by omega)] at hv259_3
                   replace hv259_3 := Option.some.inj (hv259_3.symm.trans hx259_3)
                   rw [hv259_3] at ge259_3
                   have HL259_3 := ak (show Kd.R k45 45 _ _ _ _ ((rd_T40 x7_4 x8_2).f3) from ge259_3)
                   clear hv259_3 ge259_3
                   have HX259_3 := ak hx259_3
                   clear hcc259 hce259
                   have HR259_1 := ak hi259_1
                   have HC259_1 := ak hl259_1
                   clear hi259_1 hl259_1
                   have HR259_2 := ak hi259_2
                   have HC259_2 := ak hl259_2
                   clear hi259_2 hl259_2
                   have HR259_3 := ak hi259_3
                   have HC259_3 := ak hl259_3
                   clear hi259_3 hl259_3
                   replace p259 := eq_true p259
                   replace q259 := eq_true q259
                   have ea_ := Option.some.inj (hx258_1.symm.trans hx259_1)
                   injection ea_ with ea_ en_ ec_
                   subst ea_
                   subst ec_
                   clear en_
                   have ea_ := Option.some.inj (hx258_2.symm.trans hx259_2)
                   injection ea_ with ea_ en_ ec_
                   subst ea_
                   subst ec_
                   clear en_
                   have ea_ := Option.some.inj (hx258_3.symm.trans hx259_3)
                   injection ea_ with ea_ en_ ec_
                   subst ea_
                   subst ec_
                   clear en_
                   have p260 : 0 ≤ (x10_4 : Int) := of_decide_eq_true (by first | (with_reducible assumption) | assumption)
                   have q260 : x10_4 < (((rd_T40 x7_4 x8_2).f3).length : Int) := of_decide_eq_true (by first | (with_reducible assumption) | assumption)
                   obtain ⟨ad260, e260, hx260_0, hx260_1, hx260_2, hx260_3⟩ := at_T45 (by repeat (first | (with_reducible exact HR259_3.out) | (with_reducible refine Kd.C_alloc ?_ _) | (with_reducible refine Kd.C_drewN ?_ _) | (with_reducible refine Kd.C_drew ?_) | exact HR259_3.out)) x10_4 p260 q260
                   cases e260
                   replace p260 := eq_true p260
                   replace q260 := eq_true q260
                   as_aux_lemma =>
                    go_wp2_with (first | (go_at_call 10; (with_reducible refine (cotterlaw07_live.calls  t261 _ A32.out).mono ?_); rintro e w33 ⟨rfl, hb⟩; have n0_ := ak (Kd.S_below (by (with_reducible repeat (first | apply Kd.S_alloc | apply Kd.S_drewN | apply Kd.S_drew)); exact HO_7.out) hb); have n1_ := ak (Kd.R_below (by (with_reducible repeat (first | apply Kd.R_alloc | apply Kd.R_drewN | apply Kd.R_drew)); exact HL258_1.out) hb); have n2_ := ak (Kd.R_below (by (with_reducible repeat (first | apply Kd.R_alloc | apply Kd.R_drewN | apply Kd.R_drew)); exact HL258_2.out) hb); have n3_ := ak (Kd.R_below (by (with_reducible repeat (first | apply Kd.R_alloc | apply Kd.R_drewN | apply Kd.R_drew)); exact HL258_3.out) hb); have n4_ := ak (Kd.R_below (by (with_reducible repeat (first | apply Kd.R_alloc | apply Kd.R_drewN | apply Kd.R_drew)); exact HL259_1.out) hb); have n5_ := ak (Kd.R_below (by (with_reducible repeat (first | apply Kd.R_alloc | apply Kd.R_drewN | apply Kd.R_drew)); exact HL259_2.out) hb); have n6_ := ak (Kd.R_below (by (with_reducible repeat (first | apply Kd.R_alloc | apply Kd.R_drewN | apply Kd.R_drew)); exact HL259_3.out) hb); have n7_ := ak (Kd.C_below (by repeat (first | (with_reducible exact HR258_1.out) | (with_reducible refine Kd.C_alloc ?_ _) | (with_reducible refine Kd.C_drewN ?_ _) | (with_reducible refine Kd.C_drew ?_) | exact HR258_1.out)) hb); have n8_ := ak (pw_cell_below hb HX258_1.out); have n9_ := ak (Kd.C_below (by repeat (first | (with_reducible exact HR258_2.out) | (with_reducible refine Kd.C_alloc ?_ _) | (with_reducible refine Kd.C_drewN ?_ _) | (with_reducible refine Kd.C_drew ?_) | exact HR258_2.out)) hb); have n10_ := ak (pw_cell_below hb HX258_2.out); have n11_ := ak (Kd.C_below (by repeat (first | (with_reducible exact HR258_3.out) | (with_reducible refine Kd.C_alloc ?_ _) | (with_reducible refine Kd.C_drewN ?_ _) | (with_reducible refine Kd.C_drew ?_) | exact HR258_3.out)) hb); have n12_ := ak (pw_cell_below hb HX258_3.out); have n13_ := ak (Kd.C_below (by repeat (first | (with_reducible exact HR259_1.out) | (with_reducible refine Kd.C_alloc ?_ _) | (with_reducible refine Kd.C_drewN ?_ _) | (with_reducible refine Kd.C_drew ?_) | exact HR259_1.out)) hb); have n14_ := ak (pw_cell_below hb HX259_1.out); have n15_ := ak (Kd.C_below (by repeat (first | (with_reducible exact HR259_2.out) | (with_reducible refine Kd.C_alloc ?_ _) | (with_reducible refine Kd.C_drewN ?_ _) | (with_reducible refine Kd.C_drew ?_) | exact HR259_2.out)) hb); have n16_ := ak (pw_cell_below hb HX259_2.out); have n17_ := ak (Kd.C_below (by repeat (first | (with_reducible exact HR259_3.out) | (with_reducible refine Kd.C_alloc ?_ _) | (with_reducible refine Kd.C_drewN ?_ _) | (with_reducible refine Kd.C_drew ?_) | exact HR259_3.out)) hb); have n18_ := ak (pw_cell_below hb HX259_3.out); have n19_ := ak (below_step (by repeat (first | (with_reducible first | exact HB.out | apply below_alloc | apply pw_below_drewN | apply below_drew1) | exact HB.out)) hb); clear HO_7; clear HL258_1; clear HL258_2; clear HL258_3; clear HL259_1; clear HL259_2; clear HL259_3; clear HR258_1; clear HX258_1; clear HR258_2; clear HX258_2; clear HR258_3; clear HX258_3; clear HR259_1; clear HX259_1; clear HR259_2; clear HX259_2; clear HR259_3; clear HX259_3; clear HB; have HO_7 := n0_; have HL258_1 := n1_; have HL258_2 := n2_; have HL258_3 := n3_; have HL259_1 := n4_; have HL259_2 := n5_; have HL259_3 := n6_; have HR258_1 := n7_; have HX258_1 := n8_; have HR258_2 := n9_; have HX258_2 := n10_; have HR258_3 := n11_; have HX258_3 := n12_; have HR259_1 := n13_; have HX259_1 := n14_; have HR259_2 := n15_; have HX259_2 := n16_; have HR259_3 := n17_; have HX259_3 := n18_; have HB := n19_; clear n0_ n1_ n2_ n3_ n4_ n5_ n6_ n7_ n8_ n9_ n10_ n11_ n12_ n13_ n14_ n15_ n16_ n17_ n18_ n19_; (try clear hb); (try clear hb2); (try clear hk); (try clear hi)))
                    repeat (go_quiet (first | (go_at_call 10; (with_reducible refine (cotterlaw07_live.calls  t261 _ A32.out).mono ?_); rintro e w33 ⟨rfl, hb⟩; have n0_ := ak (Kd.S_below (by (with_reducible repeat (first | apply Kd.S_alloc | apply Kd.S_drewN | apply Kd.S_drew)); exact HO_7.out) hb); have n1_ := ak (Kd.R_below (by (with_reducible repeat (first | apply Kd.R_alloc | apply Kd.R_drewN | apply Kd.R_drew)); exact HL258_1.out) hb); have n2_ := ak (Kd.R_below (by (with_reducible repeat (first | apply Kd.R_alloc | apply Kd.R_drewN | apply Kd.R_drew)); exact HL258_2.out) hb); have n3_ := ak (Kd.R_below (by (with_reducible repeat (first | apply Kd.R_alloc | apply Kd.R_drewN | apply Kd.R_drew)); exact HL258_3.out) hb); have n4_ := ak (Kd.R_below (by (with_reducible repeat (first | apply Kd.R_alloc | apply Kd.R_drewN | apply Kd.R_drew)); exact HL259_1.out) hb); have n5_ := ak (Kd.R_below (by (with_reducible repeat (first | apply Kd.R_alloc | apply Kd.R_drewN | apply Kd.R_drew)); exact HL259_2.out) hb); have n6_ := ak (Kd.R_below (by (with_reducible repeat (first | apply Kd.R_alloc | apply Kd.R_drewN | apply Kd.R_drew)); exact HL259_3.out) hb); have n7_ := ak (Kd.C_below (by repeat (first | (with_reducible exact HR258_1.out) | (with_reducible refine Kd.C_alloc ?_ _) | (with_reducible refine Kd.C_drewN ?_ _) | (with_reducible refine Kd.C_drew ?_) | exact HR258_1.out)) hb); have n8_ := ak (pw_cell_below hb HX258_1.out); have n9_ := ak (Kd.C_below (by repeat (first | (with_reducible exact HR258_2.out) | (with_reducible refine Kd.C_alloc ?_ _) | (with_reducible refine Kd.C_drewN ?_ _) | (with_reducible refine Kd.C_drew ?_) | exact HR258_2.out)) hb); have n10_ := ak (pw_cell_below hb HX258_2.out); have n11_ := ak (Kd.C_below (by repeat (first | (with_reducible exact HR258_3.out) | (with_reducible refine Kd.C_alloc ?_ _) | (with_reducible refine Kd.C_drewN ?_ _) | (with_reducible refine Kd.C_drew ?_) | exact HR258_3.out)) hb); have n12_ := ak (pw_cell_below hb HX258_3.out); have n13_ := ak (Kd.C_below (by repeat (first | (with_reducible exact HR259_1.out) | (with_reducible refine Kd.C_alloc ?_ _) | (with_reducible refine Kd.C_drewN ?_ _) | (with_reducible refine Kd.C_drew ?_) | exact HR259_1.out)) hb); have n14_ := ak (pw_cell_below hb HX259_1.out); have n15_ := ak (Kd.C_below (by repeat (first | (with_reducible exact HR259_2.out) | (with_reducible refine Kd.C_alloc ?_ _) | (with_reducible refine Kd.C_drewN ?_ _) | (with_reducible refine Kd.C_drew ?_) | exact HR259_2.out)) hb); have n16_ := ak (pw_cell_below hb HX259_2.out); have n17_ := ak (Kd.C_below (by repeat (first | (with_reducible exact HR259_3.out) | (with_reducible refine Kd.C_alloc ?_ _) | (with_reducible refine Kd.C_drewN ?_ _) | (with_reducible refine Kd.C_drew ?_) | exact HR259_3.out)) hb); have n18_ := ak (pw_cell_below hb HX259_3.out); have n19_ := ak (below_step (by repeat (first | (with_reducible first | exact HB.out | apply below_alloc | apply pw_below_drewN | apply below_drew1) | exact HB.out)) hb); clear HO_7; clear HL258_1; clear HL258_2; clear HL258_3; clear HL259_1; clear HL259_2; clear HL259_3; clear HR258_1; clear HX258_1; clear HR258_2; clear HX258_2; clear HR258_3; clear HX258_3; clear HR259_1; clear HX259_1; clear HR259_2; clear HX259_2; clear HR259_3; clear HX259_3; clear HB; have HO_7 := n0_; have HL258_1 := n1_; have HL258_2 := n2_; have HL258_3 := n3_; have HL259_1 := n4_; have HL259_2 := n5_; have HL259_3 := n6_; have HR258_1 := n7_; have HX258_1 := n8_; have HR258_2 := n9_; have HX258_2 := n10_; have HR258_3 := n11_; have HX258_3 := n12_; have HR259_1 := n13_; have HX259_1 := n14_; have HR259_2 := n15_; have HX259_2 := n16_; have HR259_3 := n17_; have HX259_3 := n18_; have HB := n19_; clear n0_ n1_ n2_ n3_ n4_ n5_ n6_ n7_ n8_ n9_ n10_ n11_ n12_ n13_ n14_ n15_ n16_ n17_ n18_ n19_; (try clear hb); (try clear hb2); (try clear hk); (try clear hi))); try go_wp2_with (first | (go_at_call 10; (with_reducible refine (cotterlaw07_live.calls  t261 _ A32.out).mono ?_); rintro e w33 ⟨rfl, hb⟩; have n0_ := ak (Kd.S_below (by (with_reducible repeat (first | apply Kd.S_alloc | apply Kd.S_drewN | apply Kd.S_drew)); exact HO_7.out) hb); have n1_ := ak (Kd.R_below (by (with_reducible repeat (first | apply Kd.R_alloc | apply Kd.R_drewN | apply Kd.R_drew)); exact HL258_1.out) hb); have n2_ := ak (Kd.R_below (by (with_reducible repeat (first | apply Kd.R_alloc | apply Kd.R_drewN | apply Kd.R_drew)); exact HL258_2.out) hb); have n3_ := ak (Kd.R_below (by (with_reducible repeat (first | apply Kd.R_alloc | apply Kd.R_drewN | apply Kd.R_drew)); exact HL258_3.out) hb); have n4_ := ak (Kd.R_below (by (with_reducible repeat (first | apply Kd.R_alloc | apply Kd.R_drewN | apply Kd.R_drew)); exact HL259_1.out) hb); have n5_ := ak (Kd.R_below (by (with_reducible repeat (first | apply Kd.R_alloc | apply Kd.R_drewN | apply Kd.R_drew)); exact HL259_2.out) hb); have n6_ := ak (Kd.R_below (by (with_reducible repeat (first | apply Kd.R_alloc | apply Kd.R_drewN | apply Kd.R_drew)); exact HL259_3.out) hb); have n7_ := ak (Kd.C_below (by repeat (first | (with_reducible exact HR258_1.out) | (with_reducible refine Kd.C_alloc ?_ _) | (with_reducible refine Kd.C_drewN ?_ _) | (with_reducible refine Kd.C_drew ?_) | exact HR258_1.out)) hb); have n8_ := ak (pw_cell_below hb HX258_1.out); have n9_ := ak (Kd.C_below (by repeat (first | (with_reducible exact HR258_2.out) | (with_reducible refine Kd.C_alloc ?_ _) | (with_reducible refine Kd.C_drewN ?_ _) | (with_reducible refine Kd.C_drew ?_) | exact HR258_2.out)) hb); have n10_ := ak (pw_cell_below hb HX258_2.out); have n11_ := ak (Kd.C_below (by repeat (first | (with_reducible exact HR258_3.out) | (with_reducible refine Kd.C_alloc ?_ _) | (with_reducible refine Kd.C_drewN ?_ _) | (with_reducible refine Kd.C_drew ?_) | exact HR258_3.out)) hb); have n12_ := ak (pw_cell_below hb HX258_3.out); have n13_ := ak (Kd.C_below (by repeat (first | (with_reducible exact HR259_1.out) | (with_reducible refine Kd.C_alloc ?_ _) | (with_reducible refine Kd.C_drewN ?_ _) | (with_reducible refine Kd.C_drew ?_) | exact HR259_1.out)) hb); have n14_ := ak (pw_cell_below hb HX259_1.out); have n15_ := ak (Kd.C_below (by repeat (first | (with_reducible exact HR259_2.out) | (with_reducible refine Kd.C_alloc ?_ _) | (with_reducible refine Kd.C_drewN ?_ _) | (with_reducible refine Kd.C_drew ?_) | exact HR259_2.out)) hb); have n16_ := ak (pw_cell_below hb HX259_2.out); have n17_ := ak (Kd.C_below (by repeat (first | (with_reducible exact HR259_3.out) | (with_reducible refine Kd.C_alloc ?_ _) | (with_reducible refine Kd.C_drewN ?_ _) | (with_reducible refine Kd.C_drew ?_) | exact HR259_3.out)) hb); have n18_ := ak (pw_cell_below hb HX259_3.out); have n19_ := ak (below_step (by repeat (first | (with_reducible first | exact HB.out | apply below_alloc | apply pw_below_drewN | apply below_drew1) | exact HB.out)) hb); clear HO_7; clear HL258_1; clear HL258_2; clear HL258_3; clear HL259_1; clear HL259_2; clear HL259_3; clear HR258_1; clear HX258_1; clear HR258_2; clear HX258_2; clear HR258_3; clear HX258_3; clear HR259_1; clear HX259_1; clear HR259_2; clear HX259_2; clear HR259_3; clear HX259_3; clear HB; have HO_7 := n0_; have HL258_1 := n1_; have HL258_2 := n2_; have HL258_3 := n3_; have HL259_1 := n4_; have HL259_2 := n5_; have HL259_3 := n6_; have HR258_1 := n7_; have HX258_1 := n8_; have HR258_2 := n9_; have HX258_2 := n10_; have HR258_3 := n11_; have HX258_3 := n12_; have HR259_1 := n13_; have HX259_1 := n14_; have HR259_2 := n15_; have HX259_2 := n16_; have HR259_3 := n17_; have HX259_3 := n18_; have HB := n19_; clear n0_ n1_ n2_ n3_ n4_ n5_ n6_ n7_ n8_ n9_ n10_ n11_ n12_ n13_ n14_ n15_ n16_ n17_ n18_ n19_; (try clear hb); (try clear hb2); (try clear hk); (try clear hi))))
                    go_ret
                    exact ⟨by first | rfl | (simp [errW_none, errW_some] <;> rfl) | (simp [*, errW_none, errW_some] <;> rfl), by repeat (first | (with_reducible first | exact HB.out | apply below_alloc | apply pw_below_drewN | apply below_drew1) | exact HB.out)⟩
                  ·rw [if_neg c31] at H
                   have c31b0 : (((rd_T45 ((rd_T40 x7_4 x8_2).f3) x10_4).f2).toList == a2.toList) = false := beq_eq_false_iff_ne.mpr c31
                   have c31b1 : (((rd_T45 ((rd_T40 x7_4 x8_2).f3) x10_4).f2).toList != a2.toList) = true := bne_iff_ne.mpr c31
                   by_cases c34 : ((rd_T45 ((rd_T40 x7_4 x8_2).f3) x10_4).f2).toList = a1.toList
                   ·rw [if_pos c34] at H
                    have c34b0 : (((rd_T45 ((rd_T40 x7_4 x8_2).f3) x10_4).f2).toList == a1.toList) = true := beq_iff_eq.mpr c34
                    have c34b1 : (((rd_T45 ((rd_T40 x7_4 x8_2).f3) x10_4).f2).toList != a1.toList) = false := bne_eq_false_iff_eq.mpr c34
                    clear c34
                    obtain ⟨y265, hy265⟩ : ∃ y_ : List (S45), y_ = (((rd_T40 x7_4 x8_2).f3).set (x10_4 : Int).toNat (⟨(rd_T45 ((rd_T40 x7_4 x8_2).f3) x10_4).f0, (rd_T45 ((rd_T40 x7_4 x8_2).f3) x10_4).f1, a2, (rd_T45 ((rd_T40 x7_4 x8_2).f3) x10_4).f3⟩ : S45)) := ⟨_, rfl⟩
                    replace H : (LNa.l2 k4 l0 a1 a2 (x7_4.set (x8_2 : Int).toNat (⟨(rd_T40 x7_4 x8_2).f0, (rd_T40 x7_4 x8_2).f1, (rd_T40 x7_4 x8_2).f2, y265⟩ : S40)) x8_2 (wrap64 (x10_4 + 1))) = some r := by first | (rw [hy265]; with_reducible exact H) | (have H2_ := (Option.bind_some _ _).symm.trans H; rw [hy265]; with_reducible exact H2_) | (have H2_ := (Option.bind_some _ _).symm.trans H; with_reducible exact H2_) | with_reducible exact H | (rw [hy265]; exact H) | exact H
                    have Ny265 := ak hy265
                    clear hy265
                    obtain ⟨y267, hy267⟩ : ∃ y_ : List (S40), y_ = (x7_4.set (x8_2 : Int).toNat (⟨(rd_T40 x7_4 x8_2).f0, (rd_T40 x7_4 x8_2).f1, (rd_T40 x7_4 x8_2).f2, y265⟩ : S40)) := ⟨_, rfl⟩
                    replace H : (LNa.l2 k4 l0 a1 a2 y267 x8_2 (wrap64 (x10_4 + 1))) = some r := by first | (rw [hy267]; with_reducible exact H) | (have H2_ := (Option.bind_some _ _).symm.trans H; rw [hy267]; with_reducible exact H2_) | (have H2_ := (Option.bind_some _ _).symm.trans H; with_reducible exact H2_) | with_reducible exact H | (rw [hy267]; exact H) | exact H
                    have Ny267 := ak hy267
                    clear hy267
                    have H' := ak H
                    clear H
                    have p258 : 0 ≤ (x8_2 : Int) := of_decide_eq_true (by first | (with_reducible assumption) | assumption)
                    have q258 : x8_2 < (x7_4.length : Int) := of_decide_eq_true (by first | (with_reducible assumption) | assumption)
                    obtain ⟨ad258, A258_1, c258_1, A258_2, c258_2, A258_3, c258_3, e258, hx258_0, hx258_1, hx258_2, hx258_3, hl258_1, hi258_1, hl258_2, hi258_2, hl258_3, hi258_3⟩ := at_T40 (Kd.S_reads' HO_7.out).2.2 x8_2 p258 q258
                    obtain rfl : ad248 = ad258 := (by injection e258)
                    obtain ⟨ce258, hce258, hMe258, hcc258⟩ := Kd.S_get HO_7.out z40 x8_2 p258 (by first | exact q258 | exact of_decide_eq_true (by first | (with_reducible assumption) | assumption) | (have e_ := (Kd.S_reads' HO_7.out).1; omega))
                    obtain ⟨ve258_1, ve258_2, ve258_3, rfl, ge258_1, ge258_2, ge258_3⟩ := k40_openM hMe258
                    have hv258_1 := hcc258 1 _ rfl
                    rw [add_field _ _ 1 (by omega)] at hv258_1
                    replace hv258_1 := Option.some.inj (hv258_1.symm.trans hx258_1)
                    rw [hv258_1] at ge258_1
                    have HL258_1 := ak (show Kd.R (Kd.int .i64) 2 _ _ _ _ ((rd_T40 x7_4 x8_2).f1) from ge258_1)
                    clear hv258_1 ge258_1
                    have HX258_1 := ak hx258_1
                    have hv258_2 := hcc258 2 _ rfl
                    rw [add_field _ _ 2 (by omega)] at hv258_2
                    replace hv258_2 := Option.some.inj (hv258_2.symm.trans hx258_2)
                    rw [hv258_2] at ge258_2
                    have HL258_2 := ak (show Kd.R k36 36 _ _ _ _ ((rd_T40 x7_4 x8_2).f2) from ge258_2)
                    clear hv258_2 ge258_2
                    have HX258_2 := ak hx258_2
                    have hv258_3 := hcc258 3 _ rfl
                    rw [add_field _ _ 3 (by omega)] at hv258_3
                    replace hv258_3 := Option.some.inj (hv258_3.symm.trans hx258_3)
                    rw [hv258_3] at ge258_3
                    have HL258_3 := ak (show Kd.R k45 45 _ _ _ _ ((rd_T40 x7_4 x8_2).f3) from ge258_3)
                    clear hv258_3 ge258_3
                    have HX258_3 := ak hx258_3
                    clear hcc258 hce258
                    have HR258_1 := ak hi258_1
                    have HC258_1 := ak hl258_1
                    clear hi258_1 hl258_1
                    have HR258_2 := ak hi258_2
                    have HC258_2 := ak hl258_2
                    clear hi258_2 hl258_2
                    have HR258_3 := ak hi258_3
                    have HC258_3 := ak hl258_3
                    clear hi258_3 hl258_3
                    replace p258 := eq_true p258
                    replace q258 := eq_true q258
                    have p259 : 0 ≤ (x8_2 : Int) := of_decide_eq_true (by first | (with_reducible assumption) | assumption)
                    have q259 : x8_2 < (x7_4.length : Int) := of_decide_eq_true (by first | (with_reducible assumption) | assumption)
                    obtain ⟨ad259, A259_1, c259_1, A259_2, c259_2, A259_3, c259_3, e259, hx259_0, hx259_1, hx259_2, hx259_3, hl259_1, hi259_1, hl259_2, hi259_2, hl259_3, hi259_3⟩ := at_T40 (Kd.S_reads' HO_7.out).2.2 x8_2 p259 q259
                    obtain rfl : ad248 = ad259 := (by injection e259)
                    obtain ⟨ce259, hce259, hMe259, hcc259⟩ := Kd.S_get HO_7.out z40 x8_2 p259 (by first | exact q259 | exact of_decide_eq_true (by first | (with_reducible assumption) | assumption) | (have e_ := (Kd.S_reads' HO_7.out).1; omega))
                    obtain ⟨ve259_1, ve259_2, ve259_3, rfl, ge259_1, ge259_2, ge259_3⟩ := k40_openM hMe259
                    have hv259_1 := hcc259 1 _ rfl
                    rw [add_field _ _ 1 (by omega)] at hv259_1
                    replace hv259_1 := Option.some.inj (hv259_1.symm.trans hx259_1)
                    rw [hv259_1] at ge259_1
                    have HL259_1 := ak (show Kd.R (Kd.int .i64) 2 _ _ _ _ ((rd_T40 x7_4 x8_2).f1) from ge259_1)
                    clear hv259_1 ge259_1
                    have HX259_1 := ak hx259_1
                    have hv259_2 := hcc259 2 _ rfl
                    rw [add_field _ _ 2 (by omega)] at hv259_2
                    replace hv259_2 := Option.some.inj (hv259_2.symm.trans hx259_2)
                    rw [hv259_2] at ge259_2
                    have HL259_2 := ak (show Kd.R k36 36 _ _ _ _ ((rd_T40 x7_4 x8_2).f2) from ge259_2)
                    clear hv259_2 ge259_2
                    have HX259_2 := ak hx259_2
                    have hv259_3 := hcc259 3 _ rfl
                    rw [add_field _ _ 3 (by omega)] at hv259_3
                    replace hv259_3 := Option.some.inj (hv259_3.symm.trans hx259_3)
                    rw [hv259_3] at ge259_3
                    have HL259_3 := ak (show Kd.R k45 45 _ _ _ _ ((rd_T40 x7_4 x8_2).f3) from ge259_3)
                    clear hv259_3 ge259_3
                    have HX259_3 := ak hx259_3
                    clear hcc259 hce259
                    have HR259_1 := ak hi259_1
                    have HC259_1 := ak hl259_1
                    clear hi259_1 hl259_1
                    have HR259_2 := ak hi259_2
                    have HC259_2 := ak hl259_2
                    clear hi259_2 hl259_2
                    have HR259_3 := ak hi259_3
                    have HC259_3 := ak hl259_3
                    clear hi259_3 hl259_3
                    replace p259 := eq_true p259
                    replace q259 := eq_true q259
                    have ea_ := Option.some.inj (hx258_1.symm.trans hx259_1)
                    injection ea_ with ea_ en_ ec_
                    subst ea_
                    subst ec_
                    clear en_
                    have ea_ := Option.some.inj (hx258_2.symm.trans hx259_2)
                    injection ea_ with ea_ en_ ec_
                    subst ea_
                    subst ec_
                    clear en_
                    have ea_ := Option.some.inj (hx258_3.symm.trans hx259_3)
                    injection ea_ with ea_ en_ ec_
                    subst ea_
                    subst ec_
                    clear en_
                    have p260 : 0 ≤ (x10_4 : Int) := of_decide_eq_true (by first | (with_reducible assumption) | assumption)
                    have q260 : x10_4 < (((rd_T40 x7_4 x8_2).f3).length : Int) := of_decide_eq_true (by first | (with_reducible assumption) | assumption)
                    obtain ⟨ad260, e260, hx260_0, hx260_1, hx260_2, hx260_3⟩ := at_T45 (by repeat (first | (with_reducible exact HR259_3.out) | (with_reducible refine Kd.C_alloc ?_ _) | (with_reducible refine Kd.C_drewN ?_ _) | (with_reducible refine Kd.C_drew ?_) | exact HR259_3.out)) x10_4 p260 q260
                    cases e260
                    replace p260 := eq_true p260
                    replace q260 := eq_true q260
                    have p262 : 0 ≤ (x8_2 : Int) := of_decide_eq_true (by first | (with_reducible assumption) | assumption)
                    have q262 : x8_2 < (x7_4.length : Int) := of_decide_eq_true (by first | (with_reducible assumption) | assumption)
                    obtain ⟨ad262, A262_1, c262_1, A262_2, c262_2, A262_3, c262_3, e262, hx262_0, hx262_1, hx262_2, hx262_3, hl262_1, hi262_1, hl262_2, hi262_2, hl262_3, hi262_3⟩ := at_T40 (Kd.S_reads' HO_7.out).2.2 x8_2 p262 q262
                    obtain rfl : ad248 = ad262 := (by injection e262)
                    obtain ⟨ce262, hce262, hMe262, hcc262⟩ := Kd.S_get HO_7.out z40 x8_2 p262 (by first | exact q262 | exact of_decide_eq_true (by first | (with_reducible assumption) | assumption) | (have e_ := (Kd.S_reads' HO_7.out).1; omega))
                    obtain ⟨ve262_1, ve262_2, ve262_3, rfl, ge262_1, ge262_2, ge262_3⟩ := k40_openM hMe262
                    have hv262_1 := hcc262 1 _ rfl
                    rw [add_field _ _ 1 (by omega)] at hv262_1
                    replace hv262_1 := Option.some.inj (hv262_1.symm.trans hx262_1)
                    rw [hv262_1] at ge262_1
                    have HL262_1 := ak (show Kd.R (Kd.int .i64) 2 _ _ _ _ ((rd_T40 x7_4 x8_2).f1) from ge262_1)
                    clear hv262_1 ge262_1
                    have HX262_1 := ak hx262_1
                    have hv262_2 := hcc262 2 _ rfl
                    rw [add_field _ _ 2 (by omega)] at hv262_2
                    replace hv262_2 := Option.some.inj (hv262_2.symm.trans hx262_2)
                    rw [hv262_2] at ge262_2
                    have HL262_2 := ak (show Kd.R k36 36 _ _ _ _ ((rd_T40 x7_4 x8_2).f2) from ge262_2)
                    clear hv262_2 ge262_2
                    have HX262_2 := ak hx262_2
                    have hv262_3 := hcc262 3 _ rfl
                    rw [add_field _ _ 3 (by omega)] at hv262_3
                    replace hv262_3 := Option.some.inj (hv262_3.symm.trans hx262_3)
                    rw [hv262_3] at ge262_3
                    have HL262_3 := ak (show Kd.R k45 45 _ _ _ _ ((rd_T40 x7_4 x8_2).f3) from ge262_3)
                    clear hv262_3 ge262_3
                    have HX262_3 := ak hx262_3
                    clear hcc262 hce262
                    have HR262_1 := ak hi262_1
                    have HC262_1 := ak hl262_1
                    clear hi262_1 hl262_1
                    have HR262_2 := ak hi262_2
                    have HC262_2 := ak hl262_2
                    clear hi262_2 hl262_2
                    have HR262_3 := ak hi262_3
                    have HC262_3 := ak hl262_3
                    clear hi262_3 hl262_3
                    replace p262 := eq_true p262
                    replace q262 := eq_true q262
                    have ea_ := Option.some.inj (hx258_1.symm.trans hx262_1)
                    injection ea_ with ea_ en_ ec_
                    subst ea_
                    subst ec_
                    clear en_
                    have ea_ := Option.some.inj (hx258_2.symm.trans hx262_2)
                    injection ea_ with ea_ en_ ec_
                    subst ea_
                    subst ec_
                    clear en_
                    have ea_ := Option.some.inj (hx258_3.symm.trans hx262_3)
                    injection ea_ with ea_ en_ ec_
                    subst ea_
                    subst ec_
                    clear en_
                    have p263 : 0 ≤ (x10_4 : Int) := of_decide_eq_true (by first | (with_reducible assumption) | assumption)
                    have q263 : x10_4 < (((rd_T40 x7_4 x8_2).f3).length : Int) := of_decide_eq_true (by first | (with_reducible assumption) | assumption)
                    obtain ⟨ad263, e263, hx263_0, hx263_1, hx263_2, hx263_3⟩ := at_T45 (by repeat (first | (with_reducible exact HR262_3.out) | (with_reducible refine Kd.C_alloc ?_ _) | (with_reducible refine Kd.C_drewN ?_ _) | (with_reducible refine Kd.C_drew ?_) | exact HR262_3.out)) x10_4 p263 q263
                    cases e263
                    replace p263 := eq_true p263
                    replace q263 := eq_true q263
                    have p264 : 0 ≤ (x8_2 : Int) := of_decide_eq_true (by first | (with_reducible assumption) | assumption)
                    have q264 : x8_2 < (x7_4.length : Int) := of_decide_eq_true (by first | (with_reducible assumption) | assumption)
                    obtain ⟨ad264, A264_1, c264_1, A264_2, c264_2, A264_3, c264_3, e264, hx264_0, hx264_1, hx264_2, hx264_3, hl264_1, hi264_1, hl264_2, hi264_2, hl264_3, hi264_3⟩ := at_T40 (Kd.S_reads' HO_7.out).2.2 x8_2 p264 q264
                    obtain rfl : ad248 = ad264 := (by injection e264)
                    obtain ⟨ce264, hce264, hMe264, hcc264⟩ := Kd.S_get HO_7.out z40 x8_2 p264 (by first | exact q264 | exact of_decide_eq_true (by first | (with_reducible assumption) | assumption) | (have e_ := (Kd.S_reads' HO_7.out).1; omega))
                    obtain ⟨ve264_1, ve264_2, ve264_3, rfl, ge264_1, ge264_2, ge264_3⟩ := k40_openM hMe264
                    have hv264_1 := hcc264 1 _ rfl
                    rw [add_field _ _ 1 (by omega)] at hv264_1
                    replace hv264_1 := Option.some.inj (hv264_1.symm.trans hx264_1)
                    rw [hv264_1] at ge264_1
                    have HL264_1 := ak (show Kd.R (Kd.int .i64) 2 _ _ _ _ ((rd_T40 x7_4 x8_2).f1) from ge264_1)
                    clear hv264_1 ge264_1
                    have HX264_1 := ak hx264_1
                    have hv264_2 := hcc264 2 _ rfl
                    rw [add_field _ _ 2 (by omega)] at hv264_2
                    replace hv264_2 := Option.some.inj (hv264_2.symm.trans hx264_2)
                    rw [hv264_2] at ge264_2
                    have HL264_2 := ak (show Kd.R k36 36 _ _ _ _ ((rd_T40 x7_4 x8_2).f2) from ge264_2)
                    clear hv264_2 ge264_2
                    have HX264_2 := ak hx264_2
                    have hv264_3 := hcc264 3 _ rfl
                    rw [add_field _ _ 3 (by omega)] at hv264_3
                    replace hv264_3 := Option.some.inj (hv264_3.symm.trans hx264_3)
                    rw [hv264_3] at ge264_3
                    have HL264_3 := ak (show Kd.R k45 45 _ _ _ _ ((rd_T40 x7_4 x8_2).f3) from ge264_3)
                    clear hv264_3 ge264_3
                    have HX264_3 := ak hx264_3
                    clear hcc264 hce264
                    have HR264_1 := ak hi264_1
                    have HC264_1 := ak hl264_1
                    clear hi264_1 hl264_1
                    have HR264_2 := ak hi264_2
                    have HC264_2 := ak hl264_2
                    clear hi264_2 hl264_2
                    have HR264_3 := ak hi264_3
                    have HC264_3 := ak hl264_3
                    clear hi264_3 hl264_3
                    replace p264 := eq_true p264
                    replace q264 := eq_true q264
                    have ea_ := Option.some.inj (hx258_1.symm.trans hx264_1)
                    injection ea_ with ea_ en_ ec_
                    subst ea_
                    subst ec_
                    clear en_
                    have ea_ := Option.some.inj (hx258_2.symm.trans hx264_2)
                    injection ea_ with ea_ en_ ec_
                    subst ea_
                    subst ec_
                    clear en_
                    have ea_ := Option.some.inj (hx258_3.symm.trans hx264_3)
                    injection ea_ with ea_ en_ ec_
                    subst ea_
                    subst ec_
                    clear en_
                    have p35 : 0 ≤ (x10_4 : Int) := of_decide_eq_true (by first | (with_reducible assumption) | assumption)
                    have q35 : (x10_4 : Int) < ((((rd_T40 x7_4 x8_2).f3).length : Int) : Int) := of_decide_eq_true (by first | (with_reducible assumption) | assumption)
                    obtain ⟨go35, co35, eo35, gb35, gl35, cl35, HG35⟩ := Kd.R_form HL264_3.out (by omega)
                    (first | cases eo35 | (injection eo35 with ea_ en_ ec_; (first | subst ea_ | (injection ea_ with ea_; subst ea_)); subst ec_; clear en_))
                    have GB35 := ak gb35
                    have GG35 := ak HG35
                    clear gb35 gl35 HG35
                    (first | simp only [add_plain] at hx263_0 | skip)
                    (first | simp only [add_plain] at hx263_1 | skip)
                    (first | simp only [add_plain] at hx263_2 | skip)
                    (first | simp only [add_plain] at hx263_3 | skip)
                    obtain ⟨ce35, hcl35, hM35, hcc35, hfr35⟩ := Kd.R_elem HL264_3.out z45 (x10_4 : Int) p35 q35
                    obtain rfl := k45_openM hM35
                    have hx35_0 : wr.cell? ⟨go35, (x10_4 : Int).toNat * 4, none⟩ = some (.int .i64 ((rd_T45 ((rd_T40 x7_4 x8_2).f3) x10_4).f0)) := hcc35 0 _ rfl
                    have hx35_1 : wr.cell? ⟨go35, (x10_4 : Int).toNat * 4 + 1, none⟩ = some (.int .i64 ((rd_T45 ((rd_T40 x7_4 x8_2).f3) x10_4).f1)) := hcc35 1 _ rfl
                    have hx35_2 : wr.cell? ⟨go35, (x10_4 : Int).toNat * 4 + 2, none⟩ = some (.string ((rd_T45 ((rd_T40 x7_4 x8_2).f3) x10_4).f2)) := hcc35 2 _ rfl
                    have hx35_3 : wr.cell? ⟨go35, (x10_4 : Int).toNat * 4 + 3, none⟩ = some (.int .i64 ((rd_T45 ((rd_T40 x7_4 x8_2).f3) x10_4).f3)) := hcc35 3 _ rfl
                    have hf35_0 : wr.frozen? ⟨go35, (x10_4 : Int).toNat * 4, none⟩ = false := hfr35 0
                    have hf35_1 : wr.frozen? ⟨go35, (x10_4 : Int).toNat * 4 + 1, none⟩ = false := hfr35 1
                    have hf35_2 : wr.frozen? ⟨go35, (x10_4 : Int).toNat * 4 + 2, none⟩ = false := hfr35 2
                    have hf35_3 : wr.frozen? ⟨go35, (x10_4 : Int).toNat * 4 + 3, none⟩ = false := hfr35 3
                    clear hcl35 hcc35 hfr35 hM35
                    replace p35 := eq_true p35
                    replace q35 := eq_true q35
                    have hq36 : (x8_2 : Int) < (x7_4.length : Int) := (by have h_ : (x8_2 : Int) < ((x7_4.length : Int) : Int) := of_decide_eq_true (by first | (with_reducible assumption) | assumption); first | exact h_ | (have e_ := (Kd.S_reads' HO_7.out).1; omega) | simpa only [List.length_set, List.length_set] using h_)
                    obtain ⟨oki36, ce36, hcl36, hM36, hcc36, hok36, hbk36⟩ := Kd.S_borrow HO_7.out z40 (x8_2 : Int) (of_decide_eq_true (by first | (with_reducible assumption) | assumption)) hq36
                    obtain ⟨ve36_1, ve36_2, ve36_3, rfl, ge36_1, ge36_2, ge36_3⟩ := k40_openM hM36
                    have hv36 := hcc36 3 _ rfl
                    rw [add_field _ _ 3 (by omega)] at hv36
                    replace hv36 := Option.some.inj (hv36.symm.trans HX264_3.out)
                    subst hv36
                    clear hcc36 hcl36
                    replace ge36_3 := (show Kd.R k45 45 _ _ _ _ ((rd_T40 x7_4 x8_2).f3) from ge36_3)
                    obtain ⟨cf36, hcl36, hN36, hcc36, hfr36⟩ := Kd.R_elem ge36_3 z45 (x10_4 : Int) (of_decide_eq_true (by first | (with_reducible assumption) | assumption)) (by have h_ : (x10_4 : Int) < ((((rd_T40 x7_4 x8_2).f3).length : Int) : Int) := of_decide_eq_true (by first | (with_reducible assumption) | assumption); first | exact h_ | (have e_ := (Kd.R_reads' HR264_3.out).1; omega) | simpa using h_)
                    obtain rfl := k45_openM hN36
                    have HP36 := Kd.R_seg ge36_3 (x10_4 : Int) (of_decide_eq_true (by first | (with_reducible assumption) | assumption)) (by have h_ : (x10_4 : Int) < ((((rd_T40 x7_4 x8_2).f3).length : Int) : Int) := of_decide_eq_true (by first | (with_reducible assumption) | assumption); first | exact h_ | (have e_ := (Kd.R_reads' HR264_3.out).1; omega) | simpa using h_) (seg := [.string a2]) (j := 2) hcl36 hcc36 (show 3 ≤ 4 from by decide) (x' := (⟨(rd_T45 ((rd_T40 x7_4 x8_2).f3) x10_4).f0, (rd_T45 ((rd_T40 x7_4 x8_2).f3) x10_4).f1, a2, (rd_T45 ((rd_T40 x7_4 x8_2).f3) x10_4).f3⟩ : S45)) (k45_mkM _ _ _ (⟨(rd_T45 ((rd_T40 x7_4 x8_2).f3) x10_4).f0, (rd_T45 ((rd_T40 x7_4 x8_2).f3) x10_4).f1, a2, (rd_T45 ((rd_T40 x7_4 x8_2).f3) x10_4).f3⟩ : S45)) (fun _ hk => hk)
                    clear hcl36 hcc36 hfr36 hN36
                    as_aux_lemma =>
                     go_wp2_with (first | ((with_reducible refine gate_store (t := 9) (p := 124) rfl ?_); (try (rw [drewN_self wr]; generalize hq_ : World.drewN wr _ = wr; have n0_ := ak (Kd.S_at hq_ HO_7.out); have n1_ := ak (Kd.R_at hq_ HL297.out); have n2_ := ak (below_at hq_ HB.out); clear hq_ HO_7 HL297 HB; have HO_7 := n0_; have HL297 := n1_; have HB := n2_; clear n0_ n1_ n2_; (try (have hq36 : (x8_2 : Int) < (x7_4.length : Int) := (by have h_ : (x8_2 : Int) < ((x7_4.length : Int) : Int) := of_decide_eq_true (by first | (with_reducible assumption) | assumption); first | exact h_ | (have e_ := (Kd.S_reads' HO_7.out).1; omega) | simpa only [List.length_set, List.length_set] using h_))); (try (obtain ⟨oki36, ce36, hcl36, hM36, hcc36, hok36, hbk36⟩ := Kd.S_borrow HO_7.out z40 (x8_2 : Int) (of_decide_eq_true (by first | (with_reducible assumption) | assumption)) hq36)); (try (obtain ⟨ve36_1, ve36_2, ve36_3, rfl, ge36_1, ge36_2, ge36_3⟩ := k40_openM hM36)); (try (have hv36 := hcc36 3 _ rfl)); (try (rw [add_field _ _ 3 (by omega)] at hv36)); (try (replace hv36 := Option.some.inj (hv36.symm.trans HX264_3.out))); (try (subst hv36)); (try (clear hcc36 hcl36)); (try (replace ge36_3 := (show Kd.R k45 45 _ _ _ _ ((rd_T40 x7_4 x8_2).f3) from ge36_3))); (try (obtain ⟨cf36, hcl36, hN36, hcc36, hfr36⟩ := Kd.R_elem ge36_3 z45 (x10_4 : Int) (of_decide_eq_true (by first | (with_reducible assumption) | assumption)) (by have h_ : (x10_4 : Int) < ((((rd_T40 x7_4 x8_2).f3).length : Int) : Int) := of_decide_eq_true (by first | (with_reducible assumption) | assumption); first | exact h_ | (have e_ := (Kd.R_reads' HR264_3.out).1; omega) | simpa using h_))); (try (obtain rfl := k45_openM hN36)); (try (have HP36 := Kd.R_seg ge36_3 (x10_4 : Int) (of_decide_eq_true (by first | (with_reducible assumption) | assumption)) (by have h_ : (x10_4 : Int) < ((((rd_T40 x7_4 x8_2).f3).length : Int) : Int) := of_decide_eq_true (by first | (with_reducible assumption) | assumption); first | exact h_ | (have e_ := (Kd.R_reads' HR264_3.out).1; omega) | simpa using h_) (seg := [.string a2]) (j := 2) hcl36 hcc36 (show 3 ≤ 4 from by decide) (x' := (⟨(rd_T45 ((rd_T40 x7_4 x8_2).f3) x10_4).f0, (rd_T45 ((rd_T40 x7_4 x8_2).f3) x10_4).f1, a2, (rd_T45 ((rd_T40 x7_4 x8_2).f3) x10_4).f3⟩ : S45)) (k45_mkM _ _ _ (⟨(rd_T45 ((rd_T40 x7_4 x8_2).f3) x10_4).f0, (rd_T45 ((rd_T40 x7_4 x8_2).f3) x10_4).f1, a2, (rd_T45 ((rd_T40 x7_4 x8_2).f3) x10_4).f3⟩ : S45)) (fun _ hk => hk))); (try (clear hcl36 hcc36 hfr36 hN36)))); refine store_event (t := 9) (p := 124) (v := ?vo_w37) (w1 := (wr.setCell ⟨go35, (x10_4 : Int).toNat * 4 + 2, none⟩ (.string a2))) ?hg ?ho ?hn ?hr ?_; (case ho => rfl); (case hg => rfl); (case hn => rfl); (case hr => first | (go_simp; done) | (go_simp; rfl)); intro w37 hw; have hg : wr.grownBy w37 (some go35) := (by rw [hw]; exact HP36.2); have hz_ : Kd.R k45 45 w37 w.heap.size oki36 (.slice (some ⟨go35, 0, none⟩) ((rd_T40 x7_4 x8_2).f3).length c258_3) y265 := (by rw [hw, Ny265.out]; exact HP36.1); have hp_ : Kd.S k40 40 w37 w.heap.size (fun _ => True) (.slice (some ad248) x7_4.length co15) y267 := (by rw [Ny267.out]; exact hbk36 hg (fun k_ e_ => by injection e_ with e_; subst e_; exact ge36_3.1 _ rfl) (k40_mkM _ _ _ (⟨(rd_T40 x7_4 x8_2).f0, (rd_T40 x7_4 x8_2).f1, (rd_T40 x7_4 x8_2).f2, y265⟩ : S40) (Kd.R_over' (v := (.slice (some ⟨go35, 0, none⟩) ((rd_T40 x7_4 x8_2).f3).length c258_3)) ge36_1 (Kd.R_typed ge36_3) (by decide) hg) (Kd.R_over' (v := (.slice (some ⟨go35, 0, none⟩) ((rd_T40 x7_4 x8_2).f3).length c258_3)) ge36_2 (Kd.R_typed ge36_3) (by decide) hg) hz_)); have hm_ := Kd.R_mono hz_ hok36; clear HP36 hbk36; have n0_ := ak (hp_); have n1_ := ak ((by rw [hw]; exact below_set (HB.out) GB35.out : Below w.heap.size w w37)); have n2_ := ak (hm_); have n3_ := ak ((Kd.R_reads' hm_).2.1); clear HO_7; clear HB; clear HL258_1; clear HL258_2; clear HL258_3; clear HL259_1; clear HL259_2; clear HL259_3; clear HL262_1; clear HL262_2; clear HL262_3; clear HL264_1; clear HL264_2; clear HL264_3; have HO_7 := n0_; have HB := n1_; have HL297 := n2_; have HC266 := n3_; clear n0_ n1_ n2_ n3_; clear hg hw hp_ hz_ hm_ hok36))
                     repeat (go_quiet (first | ((with_reducible refine gate_store (t := 9) (p := 124) rfl ?_); (try (rw [drewN_self wr]; generalize hq_ : World.drewN wr _ = wr; have n0_ := ak (Kd.S_at hq_ HO_7.out); have n1_ := ak (Kd.R_at hq_ HL297.out); have n2_ := ak (below_at hq_ HB.out); clear hq_ HO_7 HL297 HB; have HO_7 := n0_; have HL297 := n1_; have HB := n2_; clear n0_ n1_ n2_; (try (have hq36 : (x8_2 : Int) < (x7_4.length : Int) := (by have h_ : (x8_2 : Int) < ((x7_4.length : Int) : Int) := of_decide_eq_true (by first | (with_reducible assumption) | assumption); first | exact h_ | (have e_ := (Kd.S_reads' HO_7.out).1; omega) | simpa only [List.length_set, List.length_set] using h_))); (try (obtain ⟨oki36, ce36, hcl36, hM36, hcc36, hok36, hbk36⟩ := Kd.S_borrow HO_7.out z40 (x8_2 : Int) (of_decide_eq_true (by first | (with_reducible assumption) | assumption)) hq36)); (try (obtain ⟨ve36_1, ve36_2, ve36_3, rfl, ge36_1, ge36_2, ge36_3⟩ := k40_openM hM36)); (try (have hv36 := hcc36 3 _ rfl)); (try (rw [add_field _ _ 3 (by omega)] at hv36)); (try (replace hv36 := Option.some.inj (hv36.symm.trans HX264_3.out))); (try (subst hv36)); (try (clear hcc36 hcl36)); (try (replace ge36_3 := (show Kd.R k45 45 _ _ _ _ ((rd_T40 x7_4 x8_2).f3) from ge36_3))); (try (obtain ⟨cf36, hcl36, hN36, hcc36, hfr36⟩ := Kd.R_elem ge36_3 z45 (x10_4 : Int) (of_decide_eq_true (by first | (with_reducible assumption) | assumption)) (by have h_ : (x10_4 : Int) < ((((rd_T40 x7_4 x8_2).f3).length : Int) : Int) := of_decide_eq_true (by first | (with_reducible assumption) | assumption); first | exact h_ | (have e_ := (Kd.R_reads' HR264_3.out).1; omega) | simpa using h_))); (try (obtain rfl := k45_openM hN36)); (try (have HP36 := Kd.R_seg ge36_3 (x10_4 : Int) (of_decide_eq_true (by first | (with_reducible assumption) | assumption)) (by have h_ : (x10_4 : Int) < ((((rd_T40 x7_4 x8_2).f3).length : Int) : Int) := of_decide_eq_true (by first | (with_reducible assumption) | assumption); first | exact h_ | (have e_ := (Kd.R_reads' HR264_3.out).1; omega) | simpa using h_) (seg := [.string a2]) (j := 2) hcl36 hcc36 (show 3 ≤ 4 from by decide) (x' := (⟨(rd_T45 ((rd_T40 x7_4 x8_2).f3) x10_4).f0, (rd_T45 ((rd_T40 x7_4 x8_2).f3) x10_4).f1, a2, (rd_T45 ((rd_T40 x7_4 x8_2).f3) x10_4).f3⟩ : S45)) (k45_mkM _ _ _ (⟨(rd_T45 ((rd_T40 x7_4 x8_2).f3) x10_4).f0, (rd_T45 ((rd_T40 x7_4 x8_2).f3) x10_4).f1, a2, (rd_T45 ((rd_T40 x7_4 x8_2).f3) x10_4).f3⟩ : S45)) (fun _ hk => hk))); (try (clear hcl36 hcc36 hfr36 hN36)))); refine store_event (t := 9) (p := 124) (v := ?vo_w37) (w1 := (wr.setCell ⟨go35, (x10_4 : Int).toNat * 4 + 2, none⟩ (.string a2))) ?hg ?ho ?hn ?hr ?_; (case ho => rfl); (case hg => rfl); (case hn => rfl); (case hr => first | (go_simp; done) | (go_simp; rfl)); intro w37 hw; have hg : wr.grownBy w37 (some go35) := (by rw [hw]; exact HP36.2); have hz_ : Kd.R k45 45 w37 w.heap.size oki36 (.slice (some ⟨go35, 0, none⟩) ((rd_T40 x7_4 x8_2).f3).length c258_3) y265 := (by rw [hw, Ny265.out]; exact HP36.1); have hp_ : Kd.S k40 40 w37 w.heap.size (fun _ => True) (.slice (some ad248) x7_4.length co15) y267 := (by rw [Ny267.out]; exact hbk36 hg (fun k_ e_ => by injection e_ with e_; subst e_; exact ge36_3.1 _ rfl) (k40_mkM _ _ _ (⟨(rd_T40 x7_4 x8_2).f0, (rd_T40 x7_4 x8_2).f1, (rd_T40 x7_4 x8_2).f2, y265⟩ : S40) (Kd.R_over' (v := (.slice (some ⟨go35, 0, none⟩) ((rd_T40 x7_4 x8_2).f3).length c258_3)) ge36_1 (Kd.R_typed ge36_3) (by decide) hg) (Kd.R_over' (v := (.slice (some ⟨go35, 0, none⟩) ((rd_T40 x7_4 x8_2).f3).length c258_3)) ge36_2 (Kd.R_typed ge36_3) (by decide) hg) hz_)); have hm_ := Kd.R_mono hz_ hok36; clear HP36 hbk36; have n0_ := ak (hp_); have n1_ := ak ((by rw [hw]; exact below_set (HB.out) GB35.out : Below w.heap.size w w37)); have n2_ := ak (hm_); have n3_ := ak ((Kd.R_reads' hm_).2.1); clear HO_7; clear HB; clear HL258_1; clear HL258_2; clear HL258_3; clear HL259_1; clear HL259_2; clear HL259_3; clear HL262_1; clear HL262_2; clear HL262_3; clear HL264_1; clear HL264_2; clear HL264_3; have HO_7 := n0_; have HB := n1_; have HL297 := n2_; have HC266 := n3_; clear n0_ n1_ n2_ n3_; clear hg hw hp_ hz_ hm_ hok36)); try go_wp2_with (first | ((with_reducible refine gate_store (t := 9) (p := 124) rfl ?_); (try (rw [drewN_self wr]; generalize hq_ : World.drewN wr _ = wr; have n0_ := ak (Kd.S_at hq_ HO_7.out); have n1_ := ak (Kd.R_at hq_ HL297.out); have n2_ := ak (below_at hq_ HB.out); clear hq_ HO_7 HL297 HB; have HO_7 := n0_; have HL297 := n1_; have HB := n2_; clear n0_ n1_ n2_; (try (have hq36 : (x8_2 : Int) < (x7_4.length : Int) := (by have h_ : (x8_2 : Int) < ((x7_4.length : Int) : Int) := of_decide_eq_true (by first | (with_reducible assumption) | assumption); first | exact h_ | (have e_ := (Kd.S_reads' HO_7.out).1; omega) | simpa only [List.length_set, List.length_set] using h_))); (try (obtain ⟨oki36, ce36, hcl36, hM36, hcc36, hok36, hbk36⟩ := Kd.S_borrow HO_7.out z40 (x8_2 : Int) (of_decide_eq_true (by first | (with_reducible assumption) | assumption)) hq36)); (try (obtain ⟨ve36_1, ve36_2, ve36_3, rfl, ge36_1, ge36_2, ge36_3⟩ := k40_openM hM36)); (try (have hv36 := hcc36 3 _ rfl)); (try (rw [add_field _ _ 3 (by omega)] at hv36)); (try (replace hv36 := Option.some.inj (hv36.symm.trans HX264_3.out))); (try (subst hv36)); (try (clear hcc36 hcl36)); (try (replace ge36_3 := (show Kd.R k45 45 _ _ _ _ ((rd_T40 x7_4 x8_2).f3) from ge36_3))); (try (obtain ⟨cf36, hcl36, hN36, hcc36, hfr36⟩ := Kd.R_elem ge36_3 z45 (x10_4 : Int) (of_decide_eq_true (by first | (with_reducible assumption) | assumption)) (by have h_ : (x10_4 : Int) < ((((rd_T40 x7_4 x8_2).f3).length : Int) : Int) := of_decide_eq_true (by first | (with_reducible assumption) | assumption); first | exact h_ | (have e_ := (Kd.R_reads' HR264_3.out).1; omega) | simpa using h_))); (try (obtain rfl := k45_openM hN36)); (try (have HP36 := Kd.R_seg ge36_3 (x10_4 : Int) (of_decide_eq_true (by first | (with_reducible assumption) | assumption)) (by have h_ : (x10_4 : Int) < ((((rd_T40 x7_4 x8_2).f3).length : Int) : Int) := of_decide_eq_true (by first | (with_reducible assumption) | assumption); first | exact h_ | (have e_ := (Kd.R_reads' HR264_3.out).1; omega) | simpa using h_) (seg := [.string a2]) (j := 2) hcl36 hcc36 (show 3 ≤ 4 from by decide) (x' := (⟨(rd_T45 ((rd_T40 x7_4 x8_2).f3) x10_4).f0, (rd_T45 ((rd_T40 x7_4 x8_2).f3) x10_4).f1, a2, (rd_T45 ((rd_T40 x7_4 x8_2).f3) x10_4).f3⟩ : S45)) (k45_mkM _ _ _ (⟨(rd_T45 ((rd_T40 x7_4 x8_2).f3) x10_4).f0, (rd_T45 ((rd_T40 x7_4 x8_2).f3) x10_4).f1, a2, (rd_T45 ((rd_T40 x7_4 x8_2).f3) x10_4).f3⟩ : S45)) (fun _ hk => hk))); (try (clear hcl36 hcc36 hfr36 hN36)))); refine store_event (t := 9) (p := 124) (v := ?vo_w37) (w1 := (wr.setCell ⟨go35, (x10_4 : Int).toNat * 4 + 2, none⟩ (.string a2))) ?hg ?ho ?hn ?hr ?_; (case ho => rfl); (case hg => rfl); (case hn => rfl); (case hr => first | (go_simp; done) | (go_simp; rfl)); intro w37 hw; have hg : wr.grownBy w37 (some go35) := (by rw [hw]; exact HP36.2); have hz_ : Kd.R k45 45 w37 w.heap.size oki36 (.slice (some ⟨go35, 0, none⟩) ((rd_T40 x7_4 x8_2).f3).length c258_3) y265 := (by rw [hw, Ny265.out]; exact HP36.1); have hp_ : Kd.S k40 40 w37 w.heap.size (fun _ => True) (.slice (some ad248) x7_4.length co15) y267 := (by rw [Ny267.out]; exact hbk36 hg (fun k_ e_ => by injection e_ with e_; subst e_; exact ge36_3.1 _ rfl) (k40_mkM _ _ _ (⟨(rd_T40 x7_4 x8_2).f0, (rd_T40 x7_4 x8_2).f1, (rd_T40 x7_4 x8_2).f2, y265⟩ : S40) (Kd.R_over' (v := (.slice (some ⟨go35, 0, none⟩) ((rd_T40 x7_4 x8_2).f3).length c258_3)) ge36_1 (Kd.R_typed ge36_3) (by decide) hg) (Kd.R_over' (v := (.slice (some ⟨go35, 0, none⟩) ((rd_T40 x7_4 x8_2).f3).length c258_3)) ge36_2 (Kd.R_typed ge36_3) (by decide) hg) hz_)); have hm_ := Kd.R_mono hz_ hok36; clear HP36 hbk36; have n0_ := ak (hp_); have n1_ := ak ((by rw [hw]; exact below_set (HB.out) GB35.out : Below w.heap.size w w37)); have n2_ := ak (hm_); have n3_ := ak ((Kd.R_reads' hm_).2.1); clear HO_7; clear HB; clear HL258_1; clear HL258_2; clear HL258_3; clear HL259_1; clear HL259_2; clear HL259_3; clear HL262_1; clear HL262_2; clear HL262_3; clear HL264_1; clear HL264_2; clear HL264_3; have HO_7 := n0_; have HB := n1_; have HL297 := n2_; have HC266 := n3_; clear n0_ n1_ n2_ n3_; clear hg hw hp_ hz_ hm_ hok36)))
                     (try simp only [← hl7_4])
                     go_roundg k4
                     case measure => have := HJ3.out; have := HK2.out; have := HK3.out; have := HK4.out; omega
                     case rel => exact ⟨(y267), (wrap64 (x10_4 + 1)), (by first | rfl | (simp; done) | (simp [*]; done)), H', ⟨by have := HJ3.out; have := HK2.out; have := HK3.out; have := HK4.out; omega⟩, ⟨by (try simp only [hl7_3]); (try simp only [hl7_4]); (with_reducible repeat (first | apply Kd.S_alloc | apply Kd.S_drewN | apply Kd.S_drew)); exact HO_7.out⟩, ⟨by repeat (first | (with_reducible first | exact HB.out | apply below_alloc | apply pw_below_drewN | apply below_drew1) | exact HB.out)⟩⟩
                   ·rw [if_neg c34] at H
                    have c34b0 : (((rd_T45 ((rd_T40 x7_4 x8_2).f3) x10_4).f2).toList == a1.toList) = false := beq_eq_false_iff_ne.mpr c34
                    have c34b1 : (((rd_T45 ((rd_T40 x7_4 x8_2).f3) x10_4).f2).toList != a1.toList) = true := bne_iff_ne.mpr c34
                    have H' := ak H
                    clear H
                    have p258 : 0 ≤ (x8_2 : Int) := of_decide_eq_true (by first | (with_reducible assumption) | assumption)
                    have q258 : x8_2 < (x7_4.length : Int) := of_decide_eq_true (by first | (with_reducible assumption) | assumption)
                    obtain ⟨ad258, A258_1, c258_1, A258_2, c258_2, A258_3, c258_3, e258, hx258_0, hx258_1, hx258_2, hx258_3, hl258_1, hi258_1, hl258_2, hi258_2, hl258_3, hi258_3⟩ := at_T40 (Kd.S_reads' HO_7.out).2.2 x8_2 p258 q258
                    obtain rfl : ad248 = ad258 := (by injection e258)
                    obtain ⟨ce258, hce258, hMe258, hcc258⟩ := Kd.S_get HO_7.out z40 x8_2 p258 (by first | exact q258 | exact of_decide_eq_true (by first | (with_reducible assumption) | assumption) | (have e_ := (Kd.S_reads' HO_7.out).1; omega))
                    obtain ⟨ve258_1, ve258_2, ve258_3, rfl, ge258_1, ge258_2, ge258_3⟩ := k40_openM hMe258
                    have hv258_1 := hcc258 1 _ rfl
                    rw [add_field _ _ 1 (by omega)] at hv258_1
                    replace hv258_1 := Option.some.inj (hv258_1.symm.trans hx258_1)
                    rw [hv258_1] at ge258_1
                    have HL258_1 := ak (show Kd.R (Kd.int .i64) 2 _ _ _ _ ((rd_T40 x7_4 x8_2).f1) from ge258_1)
                    clear hv258_1 ge258_1
                    have HX258_1 := ak hx258_1
                    have hv258_2 := hcc258 2 _ rfl
                    rw [add_field _ _ 2 (by omega)] at hv258_2
                    replace hv258_2 := Option.some.inj (hv258_2.symm.trans hx258_2)
                    rw [hv258_2] at ge258_2
                    have HL258_2 := ak (show Kd.R k36 36 _ _ _ _ ((rd_T40 x7_4 x8_2).f2) from ge258_2)
                    clear hv258_2 ge258_2
                    have HX258_2 := ak hx258_2
                    have hv258_3 := hcc258 3 _ rfl
                    rw [add_field _ _ 3 (by omega)] at hv258_3
                    replace hv258_3 := Option.some.inj (hv258_3.symm.trans hx258_3)
                    rw [hv258_3] at ge258_3
                    have HL258_3 := ak (show Kd.R k45 45 _ _ _ _ ((rd_T40 x7_4 x8_2).f3) from ge258_3)
                    clear hv258_3 ge258_3
                    have HX258_3 := ak hx258_3
                    clear hcc258 hce258
                    have HR258_1 := ak hi258_1
                    have HC258_1 := ak hl258_1
                    clear hi258_1 hl258_1
                    have HR258_2 := ak hi258_2
                    have HC258_2 := ak hl258_2
                    clear hi258_2 hl258_2
                    have HR258_3 := ak hi258_3
                    have HC258_3 := ak hl258_3
                    clear hi258_3 hl258_3
                    replace p258 := eq_true p258
                    replace q258 := eq_true q258
                    have p259 : 0 ≤ (x8_2 : Int) := of_decide_eq_true (by first | (with_reducible assumption) | assumption)
                    have q259 : x8_2 < (x7_4.length : Int) := of_decide_eq_true (by first | (with_reducible assumption) | assumption)
                    obtain ⟨ad259, A259_1, c259_1, A259_2, c259_2, A259_3, c259_3, e259, hx259_0, hx259_1, hx259_2, hx259_3, hl259_1, hi259_1, hl259_2, hi259_2, hl259_3, hi259_3⟩ := at_T40 (Kd.S_reads' HO_7.out).2.2 x8_2 p259 q259
                    obtain rfl : ad248 = ad259 := (by injection e259)
                    obtain ⟨ce259, hce259, hMe259, hcc259⟩ := Kd.S_get HO_7.out z40 x8_2 p259 (by first | exact q259 | exact of_decide_eq_true (by first | (with_reducible assumption) | assumption) | (have e_ := (Kd.S_reads' HO_7.out).1; omega))
                    obtain ⟨ve259_1, ve259_2, ve259_3, rfl, ge259_1, ge259_2, ge259_3⟩ := k40_openM hMe259
                    have hv259_1 := hcc259 1 _ rfl
                    rw [add_field _ _ 1 (by omega)] at hv259_1
                    replace hv259_1 := Option.some.inj (hv259_1.symm.trans hx259_1)
                    rw [hv259_1] at ge259_1
                    have HL259_1 := ak (show Kd.R (Kd.int .i64) 2 _ _ _ _ ((rd_T40 x7_4 x8_2).f1) from ge259_1)
                    clear hv259_1 ge259_1
                    have HX259_1 := ak hx259_1
                    have hv259_2 := hcc259 2 _ rfl
                    rw [add_field _ _ 2 (by omega)] at hv259_2
                    replace hv259_2 := Option.some.inj (hv259_2.symm.trans hx259_2)
                    rw [hv259_2] at ge259_2
                    have HL259_2 := ak (show Kd.R k36 36 _ _ _ _ ((rd_T40 x7_4 x8_2).f2) from ge259_2)
                    clear hv259_2 ge259_2
                    have HX259_2 := ak hx259_2
                    have hv259_3 := hcc259 3 _ rfl
                    rw [add_field _ _ 3 (by omega)] at hv259_3
                    replace hv259_3 := Option.some.inj (hv259_3.symm.trans hx259_3)
                    rw [hv259_3] at ge259_3
                    have HL259_3 := ak (show Kd.R k45 45 _ _ _ _ ((rd_T40 x7_4 x8_2).f3) from ge259_3)
                    clear hv259_3 ge259_3
                    have HX259_3 := ak hx259_3
                    clear hcc259 hce259
                    have HR259_1 := ak hi259_1
                    have HC259_1 := ak hl259_1
                    clear hi259_1 hl259_1
                    have HR259_2 := ak hi259_2
                    have HC259_2 := ak hl259_2
                    clear hi259_2 hl259_2
                    have HR259_3 := ak hi259_3
                    have HC259_3 := ak hl259_3
                    clear hi259_3 hl259_3
                    replace p259 := eq_true p259
                    replace q259 := eq_true q259
                    have ea_ := Option.some.inj (hx258_1.symm.trans hx259_1)
                    injection ea_ with ea_ en_ ec_
                    subst ea_
                    subst ec_
                    clear en_
                    have ea_ := Option.some.inj (hx258_2.symm.trans hx259_2)
                    injection ea_ with ea_ en_ ec_
                    subst ea_
                    subst ec_
                    clear en_
                    have ea_ := Option.some.inj (hx258_3.symm.trans hx259_3)
                    injection ea_ with ea_ en_ ec_
                    subst ea_
                    subst ec_
                    clear en_
                    have p260 : 0 ≤ (x10_4 : Int) := of_decide_eq_true (by first | (with_reducible assumption) | assumption)
                    have q260 : x10_4 < (((rd_T40 x7_4 x8_2).f3).length : Int) := of_decide_eq_true (by first | (with_reducible assumption) | assumption)
                    obtain ⟨ad260, e260, hx260_0, hx260_1, hx260_2, hx260_3⟩ := at_T45 (by repeat (first | (with_reducible exact HR259_3.out) | (with_reducible refine Kd.C_alloc ?_ _) | (with_reducible refine Kd.C_drewN ?_ _) | (with_reducible refine Kd.C_drew ?_) | exact HR259_3.out)) x10_4 p260 q260
                    cases e260
                    replace p260 := eq_true p260
                    replace q260 := eq_true q260
                    have p262 : 0 ≤ (x8_2 : Int) := of_decide_eq_true (by first | (with_reducible assumption) | assumption)
                    have q262 : x8_2 < (x7_4.length : Int) := of_decide_eq_true (by first | (with_reducible assumption) | assumption)
                    obtain ⟨ad262, A262_1, c262_1, A262_2, c262_2, A262_3, c262_3, e262, hx262_0, hx262_1, hx262_2, hx262_3, hl262_1, hi262_1, hl262_2, hi262_2, hl262_3, hi262_3⟩ := at_T40 (Kd.S_reads' HO_7.out).2.2 x8_2 p262 q262
                    obtain rfl : ad248 = ad262 := (by injection e262)
                    obtain ⟨ce262, hce262, hMe262, hcc262⟩ := Kd.S_get HO_7.out z40 x8_2 p262 (by first | exact q262 | exact of_decide_eq_true (by first | (with_reducible assumption) | assumption) | (have e_ := (Kd.S_reads' HO_7.out).1; omega))
                    obtain ⟨ve262_1, ve262_2, ve262_3, rfl, ge262_1, ge262_2, ge262_3⟩ := k40_openM hMe262
                    have hv262_1 := hcc262 1 _ rfl
                    rw [add_field _ _ 1 (by omega)] at hv262_1
                    replace hv262_1 := Option.some.inj (hv262_1.symm.trans hx262_1)
                    rw [hv262_1] at ge262_1
                    have HL262_1 := ak (show Kd.R (Kd.int .i64) 2 _ _ _ _ ((rd_T40 x7_4 x8_2).f1) from ge262_1)
                    clear hv262_1 ge262_1
                    have HX262_1 := ak hx262_1
                    have hv262_2 := hcc262 2 _ rfl
                    rw [add_field _ _ 2 (by omega)] at hv262_2
                    replace hv262_2 := Option.some.inj (hv262_2.symm.trans hx262_2)
                    rw [hv262_2] at ge262_2
                    have HL262_2 := ak (show Kd.R k36 36 _ _ _ _ ((rd_T40 x7_4 x8_2).f2) from ge262_2)
                    clear hv262_2 ge262_2
                    have HX262_2 := ak hx262_2
                    have hv262_3 := hcc262 3 _ rfl
                    rw [add_field _ _ 3 (by omega)] at hv262_3
                    replace hv262_3 := Option.some.inj (hv262_3.symm.trans hx262_3)
                    rw [hv262_3] at ge262_3
                    have HL262_3 := ak (show Kd.R k45 45 _ _ _ _ ((rd_T40 x7_4 x8_2).f3) from ge262_3)
                    clear hv262_3 ge262_3
                    have HX262_3 := ak hx262_3
                    clear hcc262 hce262
                    have HR262_1 := ak hi262_1
                    have HC262_1 := ak hl262_1
                    clear hi262_1 hl262_1
                    have HR262_2 := ak hi262_2
                    have HC262_2 := ak hl262_2
                    clear hi262_2 hl262_2
                    have HR262_3 := ak hi262_3
                    have HC262_3 := ak hl262_3
                    clear hi262_3 hl262_3
                    replace p262 := eq_true p262
                    replace q262 := eq_true q262
                    have ea_ := Option.some.inj (hx258_1.symm.trans hx262_1)
                    injection ea_ with ea_ en_ ec_
                    subst ea_
                    subst ec_
                    clear en_
                    have ea_ := Option.some.inj (hx258_2.symm.trans hx262_2)
                    injection ea_ with ea_ en_ ec_
                    subst ea_
                    subst ec_
                    clear en_
                    have ea_ := Option.some.inj (hx258_3.symm.trans hx262_3)
                    injection ea_ with ea_ en_ ec_
                    subst ea_
                    subst ec_
                    clear en_
                    have p263 : 0 ≤ (x10_4 : Int) := of_decide_eq_true (by first | (with_reducible assumption) | assumption)
                    have q263 : x10_4 < (((rd_T40 x7_4 x8_2).f3).length : Int) := of_decide_eq_true (by first | (with_reducible assumption) | assumption)
                    obtain ⟨ad263, e263, hx263_0, hx263_1, hx263_2, hx263_3⟩ := at_T45 (by repeat (first | (with_reducible exact HR262_3.out) | (with_reducible refine Kd.C_alloc ?_ _) | (with_reducible refine Kd.C_drewN ?_ _) | (with_reducible refine Kd.C_drew ?_) | exact HR262_3.out)) x10_4 p263 q263
                    cases e263
                    replace p263 := eq_true p263
                    replace q263 := eq_true q263
                    as_aux_lemma =>
                     go_wp2
                     repeat (go_quiet (fail); try go_wp2)
                     (try simp only [← hl7_4])
                     go_roundg k4
                     case measure => have := HJ3.out; have := HK2.out; have := HK3.out; have := HK4.out; omega
                     case rel => exact ⟨(x7_4), (wrap64 (x10_4 + 1)), (by first | rfl | (simp; done) | (simp [*]; done)), H', ⟨by have := HJ3.out; have := HK2.out; have := HK3.out; have := HK4.out; omega⟩, ⟨by (try simp only [hl7_3]); (try simp only [hl7_4]); (with_reducible repeat (first | apply Kd.S_alloc | apply Kd.S_drewN | apply Kd.S_drew)); exact HO_7.out⟩, ⟨by repeat (first | (with_reducible first | exact HB.out | apply below_alloc | apply pw_below_drewN | apply below_drew1) | exact HB.out)⟩⟩
                 ·rw [if_neg c30] at H
                  exact absurd H (by simp)
                ·rw [if_neg c29] at H
                 have c29b0 : decide (x10_4 < (((rd_T40 x7_4 x8_2).f3).length : Int)) = false := decide_eq_false c29
                 (try simp only [hl7_3, hl248_1, hl248_2, hl248_3, hl7_4] at c29b0)
                 clear c29
                 have H' := ak H
                 clear H
                 have p258 : 0 ≤ (x8_2 : Int) := of_decide_eq_true (by first | (with_reducible assumption) | assumption)
                 have q258 : x8_2 < (x7_4.length : Int) := of_decide_eq_true (by first | (with_reducible assumption) | assumption)
                 obtain ⟨ad258, A258_1, c258_1, A258_2, c258_2, A258_3, c258_3, e258, hx258_0, hx258_1, hx258_2, hx258_3, hl258_1, hi258_1, hl258_2, hi258_2, hl258_3, hi258_3⟩ := at_T40 (Kd.S_reads' HO_7.out).2.2 x8_2 p258 q258
                 obtain rfl : ad248 = ad258 := (by injection e258)
                 obtain ⟨ce258, hce258, hMe258, hcc258⟩ := Kd.S_get HO_7.out z40 x8_2 p258 (by first | exact q258 | exact of_decide_eq_true (by first | (with_reducible assumption) | assumption) | (have e_ := (Kd.S_reads' HO_7.out).1; omega))
                 obtain ⟨ve258_1, ve258_2, ve258_3, rfl, ge258_1, ge258_2, ge258_3⟩ := k40_openM hMe258
                 have hv258_1 := hcc258 1 _ rfl
                 rw [add_field _ _ 1 (by omega)] at hv258_1
                 replace hv258_1 := Option.some.inj (hv258_1.symm.trans hx258_1)
                 rw [hv258_1] at ge258_1
                 have HL258_1 := ak (show Kd.R (Kd.int .i64) 2 _ _ _ _ ((rd_T40 x7_4 x8_2).f1) from ge258_1)
                 clear hv258_1 ge258_1
                 have HX258_1 := ak hx258_1
                 have hv258_2 := hcc258 2 _ rfl
                 rw [add_field _ _ 2 (by omega)] at hv258_2
                 replace hv258_2 := Option.some.inj (hv258_2.symm.trans hx258_2)
                 rw [hv258_2] at ge258_2
                 have HL258_2 := ak (show Kd.R k36 36 _ _ _ _ ((rd_T40 x7_4 x8_2).f2) from ge258_2)
                 clear hv258_2 ge258_2
                 have HX258_2 := ak hx258_2
                 have hv258_3 := hcc258 3 _ rfl
                 rw [add_field _ _ 3 (by omega)] at hv258_3
                 replace hv258_3 := Option.some.inj (hv258_3.symm.trans hx258_3)
                 rw [hv258_3] at ge258_3
                 have HL258_3 := ak (show Kd.R k45 45 _ _ _ _ ((rd_T40 x7_4 x8_2).f3) from ge258_3)
                 clear hv258_3 ge258_3
                 have HX258_3 := ak hx258_3
                 clear hcc258 hce258
                 have HR258_1 := ak hi258_1
                 have HC258_1 := ak hl258_1
                 clear hi258_1 hl258_1
                 have HR258_2 := ak hi258_2
                 have HC258_2 := ak hl258_2
                 clear hi258_2 hl258_2
                 have HR258_3 := ak hi258_3
                 have HC258_3 := ak hl258_3
                 clear hi258_3 hl258_3
                 replace p258 := eq_true p258
                 replace q258 := eq_true q258
                 as_aux_lemma =>
                  go_wp2
                  repeat (go_quiet (fail); try go_wp2)
                  (try simp only [← hl7_3, ← hl7_4])
                  go_roundg k4
                  case measure => have := HJ3.out; have := HK2.out; have := HK3.out; have := HK4.out; omega
                  case rel => exact ⟨(x7_4), (wrap64 (x8_2 + 1)), (by first | rfl | (simp; done) | (simp [*]; done)), H', ⟨by have := HJ3.out; have := HK2.out; have := HK3.out; have := HK4.out; omega⟩, ⟨by (try simp only [hl7_3]); (try simp only [hl7_4]); (with_reducible repeat (first | apply Kd.S_alloc | apply Kd.S_drewN | apply Kd.S_drew)); exact HO_7.out⟩, ⟨by repeat (first | (with_reducible first | exact HB.out | apply below_alloc | apply pw_below_drewN | apply below_drew1) | exact HB.out)⟩⟩
               ·rw [if_neg c28] at H
                exact absurd H (by simp)
              ·rw [if_neg c27] at H
               exact absurd H (by simp)
          ·rw [if_neg c17] at H
           exact absurd H (by simp)
         ·rw [if_neg c16] at H
          exact absurd H (by simp)
      ·rw [if_neg c14] at H
       have c14b0 : decide (x8_2 < (x7_2.length : Int)) = false := decide_eq_false c14
       clear c14
       by_cases c38 : (a1.size : Int) > 28
       ·rw [if_pos c38] at H
        have c38b0 : decide (28 < (a1.size : Int)) = true := decide_eq_true c38
        have c38b1 : decide (28 < a1.size) = true := decide_eq_true (by omega)
        clear c38
        replace H := Option.bind_eq_some_iff.mp H
        obtain ⟨t268, A390, H⟩ := H
        replace H : (some t268) = some r := H
        have A39 := ak A390
        clear A390
        obtain rfl := Option.some.inj H
        obtain ⟨Ao40, co40, eo40⟩ := Kd.S_slice HO_7.out
        subst eo40
        as_aux_lemma =>
         go_wp2_with (first | (go_at_call 10; (with_reducible refine (cotterlaw07_live.calls  t268 _ A39.out).mono ?_); rintro e w41 ⟨rfl, hb⟩; have n0_ := ak (Kd.S_below (by (with_reducible repeat (first | apply Kd.S_alloc | apply Kd.S_drewN | apply Kd.S_drew)); exact HO_7.out) hb); have n1_ := ak (below_step (by repeat (first | (with_reducible first | exact HB.out | apply below_alloc | apply pw_below_drewN | apply below_drew1) | exact HB.out)) hb); clear HO_7; clear HB; have HO_7 := n0_; have HB := n1_; clear n0_ n1_; (try clear hb); (try clear hb2); (try clear hk); (try clear hi)))
         repeat (go_quiet (first | (go_at_call 10; (with_reducible refine (cotterlaw07_live.calls  t268 _ A39.out).mono ?_); rintro e w41 ⟨rfl, hb⟩; have n0_ := ak (Kd.S_below (by (with_reducible repeat (first | apply Kd.S_alloc | apply Kd.S_drewN | apply Kd.S_drew)); exact HO_7.out) hb); have n1_ := ak (below_step (by repeat (first | (with_reducible first | exact HB.out | apply below_alloc | apply pw_below_drewN | apply below_drew1) | exact HB.out)) hb); clear HO_7; clear HB; have HO_7 := n0_; have HB := n1_; clear n0_ n1_; (try clear hb); (try clear hb2); (try clear hk); (try clear hi))); try go_wp2_with (first | (go_at_call 10; (with_reducible refine (cotterlaw07_live.calls  t268 _ A39.out).mono ?_); rintro e w41 ⟨rfl, hb⟩; have n0_ := ak (Kd.S_below (by (with_reducible repeat (first | apply Kd.S_alloc | apply Kd.S_drewN | apply Kd.S_drew)); exact HO_7.out) hb); have n1_ := ak (below_step (by repeat (first | (with_reducible first | exact HB.out | apply below_alloc | apply pw_below_drewN | apply below_drew1) | exact HB.out)) hb); clear HO_7; clear HB; have HO_7 := n0_; have HB := n1_; clear n0_ n1_; (try clear hb); (try clear hb2); (try clear hk); (try clear hi))))
         go_ret
         exact ⟨by first | rfl | (simp [errW_none, errW_some] <;> rfl) | (simp [*, errW_none, errW_some] <;> rfl), by repeat (first | (with_reducible first | exact HB.out | apply below_alloc | apply pw_below_drewN | apply below_drew1) | exact HB.out)⟩
       ·rw [if_neg c38] at H
        have c38b0 : decide (28 < (a1.size : Int)) = false := decide_eq_false c38
        have c38b1 : decide (28 < a1.size) = false := decide_eq_false (by omega)
        clear c38
        replace H := Option.bind_eq_some_iff.mp H
        obtain ⟨⟨t269, t270, t273, t276⟩, A420, H⟩ := H
        replace H : ((link_Link.f x7_2).bind fun bt278 => (if t276 = bt278.2.2.2 then (if t269.toList = bt278.1.toList then ((cotterref06_SameData.f k2 t270 bt278.2.1).bind fun t287 => (if t287 = true then (LNa.j4 k2 a1 ((t273.length : Int) != (bt278.2.2.1.length : Int)) t269 t270 t273 bt278.1 bt278.2.1 bt278.2.2.1) else (LNa.j4 k2 a1 true t269 t270 t273 bt278.1 bt278.2.1 bt278.2.2.1))) else (LNa.j4 k2 a1 true t269 t270 t273 bt278.1 bt278.2.1 bt278.2.2.1)) else (LNa.j4 k2 a1 true t269 t270 t273 bt278.1 bt278.2.1 bt278.2.2.1))) = some r := H
        have A42 := ak A420
        clear A420
        replace H := Option.bind_eq_some_iff.mp H
        obtain ⟨⟨t278, t279, t282, t285⟩, A430, H⟩ := H
        replace H : (if t276 = t285 then (if t269.toList = t278.toList then ((cotterref06_SameData.f k2 t270 t279).bind fun t287 => (if t287 = true then (LNa.j4 k2 a1 ((t273.length : Int) != (t282.length : Int)) t269 t270 t273 t278 t279 t282) else (LNa.j4 k2 a1 true t269 t270 t273 t278 t279 t282))) else (LNa.j4 k2 a1 true t269 t270 t273 t278 t279 t282)) else (LNa.j4 k2 a1 true t269 t270 t273 t278 t279 t282)) = some r := H
        have A43 := ak A430
        clear A430
        have HC44 := ak H
        clear H
        obtain ⟨Ao45, co45, eo45⟩ := Kd.S_slice HO_7.out
        subst eo45
        go_upto_region 25 with (first | (go_at_call 12; (with_reducible refine (link_Link.calls _ _ l0 t269 t270 t273 t276 _ ?side1 ?side2 A42.out).mono ?_); (case side1 => repeat (first | exact (Kd.C_below HR0.out HB.out) | (with_reducible refine Kd.C_alloc ?_ _) | (with_reducible refine Kd.C_drewN ?_ _) | (with_reducible refine Kd.C_drew ?_))); (case side2 => exact HC0.out); rintro e w46 ⟨v271, v274, rfl, ho0, ho1, hb⟩; have n0_ := ak (Kd.S_mono (Kd.S_told (Kd.S_told (Kd.S_old (by (with_reducible repeat (first | apply Kd.S_alloc | apply Kd.S_drewN | apply Kd.S_drew)); exact HO_7.out) hb) (Kd.R_base ho0)) (Kd.R_base ho1)) (fun _ h_ => h_.1)); have n1_ := ak (Kd.R_lower ho0 (below_size (by repeat (first | (with_reducible first | exact HB.out | apply below_alloc | apply pw_below_drewN | apply below_drew1) | exact HB.out)))); have n2_ := ak (Kd.R_lower ho1 (below_size (by repeat (first | (with_reducible first | exact HB.out | apply below_alloc | apply pw_below_drewN | apply below_drew1) | exact HB.out)))); have n3_ := ak (below_step (by repeat (first | (with_reducible first | exact HB.out | apply below_alloc | apply pw_below_drewN | apply below_drew1) | exact HB.out)) hb); clear HO_7; clear HB; have HO_7 := n0_; have HO272 := n1_; have HO275 := n2_; have HB := n3_; clear n0_ n1_ n2_ n3_; (try clear hb); (try clear hb2); (try clear hk); (try clear hi); (try clear ho0); (try clear ho1)) | ((with_reducible refine gate_dst (N := 11) rfl ?_); (try (refine gate_guard (by rfl) ?_; dsimp only)); refine box_event ?hg (N := 11) ?hd (cs := #[.string (⟨#[]⟩ : ByteArray), .slice none 0 0, .slice none 0 0]) (t := 29) ?hr ?_; (case hd => rfl); (case hg => rfl); (case hr => first | (go_simp; done) | (go_simp; rfl)); intro gb277 hg w47 hbox hb; have n0_ := ak (Kd.S_below (by (with_reducible repeat (first | apply Kd.S_alloc | apply Kd.S_drewN | apply Kd.S_drew)); exact HO_7.out) hb); have n1_ := ak (Kd.R_below (by (with_reducible repeat (first | apply Kd.R_alloc | apply Kd.R_drewN | apply Kd.R_drew)); exact HO272.out) hb); have n2_ := ak (Kd.R_below (by (with_reducible repeat (first | apply Kd.R_alloc | apply Kd.R_drewN | apply Kd.R_drew)); exact HO275.out) hb); have n3_ := ak (below_step (by repeat (first | (with_reducible first | exact HB.out | apply below_alloc | apply pw_below_drewN | apply below_drew1) | exact HB.out)) hb); have n4_ := ak (hbox); have n5_ := ak ((by rw [hg]; exact (below_size (by repeat (first | (with_reducible first | exact HB.out | apply below_alloc | apply pw_below_drewN | apply below_drew1) | exact HB.out))) : w.heap.size ≤ gb277)); have n6_ := ak ((by rw [hg]; exact (below_size (by repeat (first | (with_reducible first | exact HB.out | apply below_alloc | apply pw_below_drewN | apply below_drew1) | exact HB.out))) : w.heap.size ≤ gb277)); clear HO_7; clear HO272; clear HO275; clear HB; have HO_7 := n0_; have HO272 := n1_; have HO275 := n2_; have HB := n3_; have BK277 := n4_; have GW277 := n5_; have GE277 := n6_; clear n0_ n1_ n2_ n3_ n4_ n5_ n6_; clear hb hbox hg; have hcz48_0 : w47.cell? ⟨gb277, 0, none⟩ = some (.string (⟨#[]⟩ : ByteArray)) := (blk_cell BK277.out 0).trans rfl; have hcz48_1 : w47.cell? ⟨gb277, 1, none⟩ = some (.slice none 0 0) := (blk_cell BK277.out 1).trans rfl; have hcz48_2 : w47.cell? ⟨gb277, 2, none⟩ = some (.slice none 0 0) := (blk_cell BK277.out 2).trans rfl; have hfz48_0 := blk_frozen BK277.out 0; have hfz48_1 := blk_frozen BK277.out 1; have hfz48_2 := blk_frozen BK277.out 2; obtain ⟨Ao49, co49, eo49⟩ := Kd.R_slice HO272.out; subst eo49; obtain ⟨Ao50, co50, eo50⟩ := Kd.R_slice HO275.out; subst eo50) | (go_at_call 12; (with_reducible refine (link_Link.calls _ _ x7_2 t278 t279 t282 t285 _ ?side1 ?side2 A43.out).mono ?_); (case side1 => refine (Kd.S_reads' (e := 40) (base := w.heap.size) (ok := fun k_ => ((True ∧ some k_ ≠ (.slice Ao49 t270.length co49 : Value).ownBlock) ∧ some k_ ≠ (.slice Ao50 t273.length co50 : Value).ownBlock)) (n := x7_2.length) (c := co45) ?_).2.2; exact (by (with_reducible repeat (first | apply Kd.S_alloc | apply Kd.S_drewN | apply Kd.S_drew)); exact (Kd.S_mono (Kd.S_far (p := ⟨gb277, 2, none⟩) (Kd.S_far (p := ⟨gb277, 1, none⟩) (Kd.S_far (p := ⟨gb277, 0, none⟩) (Kd.S_types HO_7.out BK277.out (by decide)) (fun _ hk => hk.2) (.string t269)) (fun _ hk => hk.2) (.slice Ao49 t270.length co49)) (fun _ hk => hk.2) (.slice Ao50 t273.length co50)) (fun _ h_ => h_.1)))); (case side2 => exact (Kd.S_reads' HO_7.out).2.1); rintro e w51 ⟨v280, v283, rfl, ho0, ho1, hb⟩; have n0_ := ak (Kd.S_mono (Kd.S_told (Kd.S_told (Kd.S_old (by (with_reducible repeat (first | apply Kd.S_alloc | apply Kd.S_drewN | apply Kd.S_drew)); exact (Kd.S_mono (Kd.S_far (p := ⟨gb277, 2, none⟩) (Kd.S_far (p := ⟨gb277, 1, none⟩) (Kd.S_far (p := ⟨gb277, 0, none⟩) (Kd.S_types HO_7.out BK277.out (by decide)) (fun _ hk => hk.2) (.string t269)) (fun _ hk => hk.2) (.slice Ao49 t270.length co49)) (fun _ hk => hk.2) (.slice Ao50 t273.length co50)) (fun _ h_ => h_.1))) hb) (Kd.R_base ho0)) (Kd.R_base ho1)) (fun _ h_ => h_.1)); have n1_ := ak (Kd.R_elder' (by (with_reducible repeat (first | apply Kd.R_alloc | apply Kd.R_drewN | apply Kd.R_drew)); exact (Kd.R_mono (Kd.R_far (p := ⟨gb277, 2, none⟩) (Kd.R_far (p := ⟨gb277, 1, none⟩) (Kd.R_far (p := ⟨gb277, 0, none⟩) (Kd.R_types HO272.out BK277.out (by decide)) (fun _ hk => hk.2) (.string t269)) (fun _ hk => hk.2) (.slice Ao49 t270.length co49)) (fun _ hk => hk.2) (.slice Ao50 t273.length co50)) (fun _ h_ => h_.1))) (Kd.R_base ho0) hb); have n2_ := ak (Kd.R_elder' (by (with_reducible repeat (first | apply Kd.R_alloc | apply Kd.R_drewN | apply Kd.R_drew)); exact (Kd.R_mono (Kd.R_far (p := ⟨gb277, 2, none⟩) (Kd.R_far (p := ⟨gb277, 1, none⟩) (Kd.R_far (p := ⟨gb277, 0, none⟩) (Kd.R_types HO275.out BK277.out (by decide)) (fun _ hk => hk.2) (.string t269)) (fun _ hk => hk.2) (.slice Ao49 t270.length co49)) (fun _ hk => hk.2) (.slice Ao50 t273.length co50)) (fun _ h_ => h_.1))) (Kd.R_base ho1) hb); have n3_ := ak (Kd.R_lower (Kd.R_new' ho0 (Kd.R_lt (by (with_reducible repeat (first | apply Kd.R_alloc | apply Kd.R_drewN | apply Kd.R_drew)); exact (Kd.R_mono (Kd.R_far (p := ⟨gb277, 2, none⟩) (Kd.R_far (p := ⟨gb277, 1, none⟩) (Kd.R_far (p := ⟨gb277, 0, none⟩) (Kd.R_types HO272.out BK277.out (by decide)) (fun _ hk => hk.2) (.string t269)) (fun _ hk => hk.2) (.slice Ao49 t270.length co49)) (fun _ hk => hk.2) (.slice Ao50 t273.length co50)) (fun _ h_ => h_.1))))) (below_size (by repeat (first | (with_reducible first | exact HB.out | apply below_alloc | apply pw_below_drewN | apply below_drew1 | refine below_set ?_ GE277.out) | exact HB.out)))); have n4_ := ak (Kd.R_lower (Kd.R_new' ho1 (Kd.R_lt (by (with_reducible repeat (first | apply Kd.R_alloc | apply Kd.R_drewN | apply Kd.R_drew)); exact (Kd.R_mono (Kd.R_far (p := ⟨gb277, 2, none⟩) (Kd.R_far (p := ⟨gb277, 1, none⟩) (Kd.R_far (p := ⟨gb277, 0, none⟩) (Kd.R_types HO275.out BK277.out (by decide)) (fun _ hk => hk.2) (.string t269)) (fun _ hk => hk.2) (.slice Ao49 t270.length co49)) (fun _ hk => hk.2) (.slice Ao50 t273.length co50)) (fun _ h_ => h_.1))))) (below_size (by repeat (first | (with_reducible first | exact HB.out | apply below_alloc | apply pw_below_drewN | apply below_drew1 | refine below_set ?_ GE277.out) | exact HB.out)))); have n5_ := ak (blk_below (g := gb277) (o := .cells #[.string t269, .slice Ao49 t270.length co49, .slice Ao50 t273.length co50] 29 (0, 0)) (by (with_reducible repeat (first | refine blk_drewN ?_ _ | refine blk_drew ?_ | refine blk_alloc ?_ _)); refine blk_put (cs := #[.string t269, .slice Ao49 t270.length co49, .slice none 0 0]) ?_ 2 _ rfl; (with_reducible repeat (first | refine blk_drewN ?_ _ | refine blk_drew ?_ | refine blk_alloc ?_ _)); refine blk_put (cs := #[.string t269, .slice none 0 0, .slice none 0 0]) ?_ 1 _ rfl; (with_reducible repeat (first | refine blk_drewN ?_ _ | refine blk_drew ?_ | refine blk_alloc ?_ _)); refine blk_put (cs := #[.string (⟨#[]⟩ : ByteArray), .slice none 0 0, .slice none 0 0]) ?_ 0 _ rfl; (with_reducible repeat (first | refine blk_drewN ?_ _ | refine blk_drew ?_ | refine blk_alloc ?_ _)); exact BK277.out) hb); have n6_ := ak (below_step (by repeat (first | (with_reducible first | exact HB.out | apply below_alloc | apply pw_below_drewN | apply below_drew1 | refine below_set ?_ GE277.out) | exact HB.out)) hb); clear HO_7; clear HO272; clear HO275; clear BK277; clear HB; have HO_7 := n0_; have HO272 := n1_; have HO275 := n2_; have HO281 := n3_; have HO284 := n4_; have BK277 := n5_; have HB := n6_; clear n0_ n1_ n2_ n3_ n4_ n5_ n6_; (try clear hb); (try clear hb2); (try clear hk); (try clear hi); (try clear ho0); (try clear ho1)) | ((with_reducible refine gate_dst (N := 13) rfl ?_); (try (refine gate_guard (by rfl) ?_; dsimp only)); refine box_event ?hg (N := 13) ?hd (cs := #[.string (⟨#[]⟩ : ByteArray), .slice none 0 0, .slice none 0 0]) (t := 29) ?hr ?_; (case hd => rfl); (case hg => rfl); (case hr => first | (go_simp; done) | (go_simp; rfl)); intro gb286 hg w52 hbox hb; have n0_ := ak (Kd.S_below (by (with_reducible repeat (first | apply Kd.S_alloc | apply Kd.S_drewN | apply Kd.S_drew)); exact HO_7.out) hb); have n1_ := ak (Kd.R_below (by (with_reducible repeat (first | apply Kd.R_alloc | apply Kd.R_drewN | apply Kd.R_drew)); exact HO272.out) hb); have n2_ := ak (Kd.R_below (by (with_reducible repeat (first | apply Kd.R_alloc | apply Kd.R_drewN | apply Kd.R_drew)); exact HO275.out) hb); have n3_ := ak (Kd.R_below (by (with_reducible repeat (first | apply Kd.R_alloc | apply Kd.R_drewN | apply Kd.R_drew)); exact HO281.out) hb); have n4_ := ak (Kd.R_below (by (with_reducible repeat (first | apply Kd.R_alloc | apply Kd.R_drewN | apply Kd.R_drew)); exact HO284.out) hb); have n5_ := ak (blk_below (g := gb277) (o := .cells #[.string t269, .slice Ao49 t270.length co49, .slice Ao50 t273.length co50] 29 (0, 0)) (by (with_reducible repeat (first | refine blk_drewN ?_ _ | refine blk_drew ?_ | refine blk_alloc ?_ _)); exact BK277.out) hb); have n6_ := ak (below_step (by repeat (first | (with_reducible first | exact HB.out | apply below_alloc | apply pw_below_drewN | apply below_drew1 | refine below_set ?_ GE277.out) | exact HB.out)) hb); have n7_ := ak (hbox); have n8_ := ak ((by rw [hg]; exact (below_size (by repeat (first | (with_reducible first | exact HB.out | apply below_alloc | apply pw_below_drewN | apply below_drew1 | refine below_set ?_ GE277.out) | exact HB.out))) : w.heap.size ≤ gb286)); have n9_ := ak ((by rw [hg]; exact (below_size (by repeat (first | (with_reducible first | exact HB.out | apply below_alloc | apply pw_below_drewN | apply below_drew1 | refine below_set ?_ GE277.out) | exact HB.out))) : w.heap.size ≤ gb286)); have n10_ := ak ((by rw [hg]; exact Nat.ne_of_lt (blk_lt (g := gb277) (o := .cells #[.string t269, .slice Ao49 t270.length co49, .slice Ao50 t273.length co50] 29 (0, 0)) (by (with_reducible repeat (first | refine blk_drewN ?_ _ | refine blk_drew ?_ | refine blk_alloc ?_ _)); exact BK277.out)) : gb277 ≠ gb286)); have n11_ := ak ((by rw [hg]; exact Nat.ne_of_gt (blk_lt (g := gb277) (o := .cells #[.string t269, .slice Ao49 t270.length co49, .slice Ao50 t273.length co50] 29 (0, 0)) (by (with_reducible repeat (first | refine blk_drewN ?_ _ | refine blk_drew ?_ | refine blk_alloc ?_ _)); exact BK277.out)) : gb286 ≠ gb277)); clear HO_7; clear HO272; clear HO275; clear HO281; clear HO284; clear BK277; clear HB; have HO_7 := n0_; have HO272 := n1_; have HO275 := n2_; have HO281 := n3_; have HO284 := n4_; have BK277 := n5_; have HB := n6_; have BK286 := n7_; have GW286 := n8_; have GE286 := n9_; have NB277_286 := n10_; have NB286_277 := n11_; clear n0_ n1_ n2_ n3_ n4_ n5_ n6_ n7_ n8_ n9_ n10_ n11_; clear hb hbox hg; have hnb53 := NB286_277.out; have hnc53 := NB277_286.out; have hcz54_0 : w52.cell? ⟨gb286, 0, none⟩ = some (.string (⟨#[]⟩ : ByteArray)) := (blk_cell BK286.out 0).trans rfl; have hcz54_1 : w52.cell? ⟨gb286, 1, none⟩ = some (.slice none 0 0) := (blk_cell BK286.out 1).trans rfl; have hcz54_2 : w52.cell? ⟨gb286, 2, none⟩ = some (.slice none 0 0) := (blk_cell BK286.out 2).trans rfl; have hfz54_0 := blk_frozen BK286.out 0; have hfz54_1 := blk_frozen BK286.out 1; have hfz54_2 := blk_frozen BK286.out 2; obtain ⟨Ao55, co55, eo55⟩ := Kd.R_slice HO281.out; subst eo55; obtain ⟨Ao56, co56, eo56⟩ := Kd.R_slice HO284.out; subst eo56))
        repeat (go_quiet (first | (go_at_call 12; (with_reducible refine (link_Link.calls _ _ l0 t269 t270 t273 t276 _ ?side1 ?side2 A42.out).mono ?_); (case side1 => repeat (first | exact (Kd.C_below HR0.out HB.out) | (with_reducible refine Kd.C_alloc ?_ _) | (with_reducible refine Kd.C_drewN ?_ _) | (with_reducible refine Kd.C_drew ?_))); (case side2 => exact HC0.out); rintro e w46 ⟨v271, v274, rfl, ho0, ho1, hb⟩; have n0_ := ak (Kd.S_mono (Kd.S_told (Kd.S_told (Kd.S_old (by (with_reducible repeat (first | apply Kd.S_alloc | apply Kd.S_drewN | apply Kd.S_drew)); exact HO_7.out) hb) (Kd.R_base ho0)) (Kd.R_base ho1)) (fun _ h_ => h_.1)); have n1_ := ak (Kd.R_lower ho0 (below_size (by repeat (first | (with_reducible first | exact HB.out | apply below_alloc | apply pw_below_drewN | apply below_drew1) | exact HB.out)))); have n2_ := ak (Kd.R_lower ho1 (below_size (by repeat (first | (with_reducible first | exact HB.out | apply below_alloc | apply pw_below_drewN | apply below_drew1) | exact HB.out)))); have n3_ := ak (below_step (by repeat (first | (with_reducible first | exact HB.out | apply below_alloc | apply pw_below_drewN | apply below_drew1) | exact HB.out)) hb); clear HO_7; clear HB; have HO_7 := n0_; have HO272 := n1_; have HO275 := n2_; have HB := n3_; clear n0_ n1_ n2_ n3_; (try clear hb); (try clear hb2); (try clear hk); (try clear hi); (try clear ho0); (try clear ho1)) | ((with_reducible refine gate_dst (N := 11) rfl ?_); (try (refine gate_guard (by rfl) ?_; dsimp only)); refine box_event ?hg (N := 11) ?hd (cs := #[.string (⟨#[]⟩ : ByteArray), .slice none 0 0, .slice none 0 0]) (t := 29) ?hr ?_; (case hd => rfl); (case hg => rfl); (case hr => first | (go_simp; done) | (go_simp; rfl)); intro gb277 hg w47 hbox hb; have n0_ := ak (Kd.S_below (by (with_reducible repeat (first | apply Kd.S_alloc | apply Kd.S_drewN | apply Kd.S_drew)); exact HO_7.out) hb); have n1_ := ak (Kd.R_below (by (with_reducible repeat (first | apply Kd.R_alloc | apply Kd.R_drewN | apply Kd.R_drew)); exact HO272.out) hb); have n2_ := ak (Kd.R_below (by (with_reducible repeat (first | apply Kd.R_alloc | apply Kd.R_drewN | apply Kd.R_drew)); exact HO275.out) hb); have n3_ := ak (below_step (by repeat (first | (with_reducible first | exact HB.out | apply below_alloc | apply pw_below_drewN | apply below_drew1) | exact HB.out)) hb); have n4_ := ak (hbox); have n5_ := ak ((by rw [hg]; exact (below_size (by repeat (first | (with_reducible first | exact HB.out | apply below_alloc | apply pw_below_drewN | apply below_drew1) | exact HB.out))) : w.heap.size ≤ gb277)); have n6_ := ak ((by rw [hg]; exact (below_size (by repeat (first | (with_reducible first | exact HB.out | apply below_alloc | apply pw_below_drewN | apply below_drew1) | exact HB.out))) : w.heap.size ≤ gb277)); clear HO_7; clear HO272; clear HO275; clear HB; have HO_7 := n0_; have HO272 := n1_; have HO275 := n2_; have HB := n3_; have BK277 := n4_; have GW277 := n5_; have GE277 := n6_; clear n0_ n1_ n2_ n3_ n4_ n5_ n6_; clear hb hbox hg; have hcz48_0 : w47.cell? ⟨gb277, 0, none⟩ = some (.string (⟨#[]⟩ : ByteArray)) := (blk_cell BK277.out 0).trans rfl; have hcz48_1 : w47.cell? ⟨gb277, 1, none⟩ = some (.slice none 0 0) := (blk_cell BK277.out 1).trans rfl; have hcz48_2 : w47.cell? ⟨gb277, 2, none⟩ = some (.slice none 0 0) := (blk_cell BK277.out 2).trans rfl; have hfz48_0 := blk_frozen BK277.out 0; have hfz48_1 := blk_frozen BK277.out 1; have hfz48_2 := blk_frozen BK277.out 2; obtain ⟨Ao49, co49, eo49⟩ := Kd.R_slice HO272.out; subst eo49; obtain ⟨Ao50, co50, eo50⟩ := Kd.R_slice HO275.out; subst eo50) | (go_at_call 12; (with_reducible refine (link_Link.calls _ _ x7_2 t278 t279 t282 t285 _ ?side1 ?side2 A43.out).mono ?_); (case side1 => refine (Kd.S_reads' (e := 40) (base := w.heap.size) (ok := fun k_ => ((True ∧ some k_ ≠ (.slice Ao49 t270.length co49 : Value).ownBlock) ∧ some k_ ≠ (.slice Ao50 t273.length co50 : Value).ownBlock)) (n := x7_2.length) (c := co45) ?_).2.2; exact (by (with_reducible repeat (first | apply Kd.S_alloc | apply Kd.S_drewN | apply Kd.S_drew)); exact (Kd.S_mono (Kd.S_far (p := ⟨gb277, 2, none⟩) (Kd.S_far (p := ⟨gb277, 1, none⟩) (Kd.S_far (p := ⟨gb277, 0, none⟩) (Kd.S_types HO_7.out BK277.out (by decide)) (fun _ hk => hk.2) (.string t269)) (fun _ hk => hk.2) (.slice Ao49 t270.length co49)) (fun _ hk => hk.2) (.slice Ao50 t273.length co50)) (fun _ h_ => h_.1)))); (case side2 => exact (Kd.S_reads' HO_7.out).2.1); rintro e w51 ⟨v280, v283, rfl, ho0, ho1, hb⟩; have n0_ := ak (Kd.S_mono (Kd.S_told (Kd.S_told (Kd.S_old (by (with_reducible repeat (first | apply Kd.S_alloc | apply Kd.S_drewN | apply Kd.S_drew)); exact (Kd.S_mono (Kd.S_far (p := ⟨gb277, 2, none⟩) (Kd.S_far (p := ⟨gb277, 1, none⟩) (Kd.S_far (p := ⟨gb277, 0, none⟩) (Kd.S_types HO_7.out BK277.out (by decide)) (fun _ hk => hk.2) (.string t269)) (fun _ hk => hk.2) (.slice Ao49 t270.length co49)) (fun _ hk => hk.2) (.slice Ao50 t273.length co50)) (fun _ h_ => h_.1))) hb) (Kd.R_base ho0)) (Kd.R_base ho1)) (fun _ h_ => h_.1)); have n1_ := ak (Kd.R_elder' (by (with_reducible repeat (first | apply Kd.R_alloc | apply Kd.R_drewN | apply Kd.R_drew)); exact (Kd.R_mono (Kd.R_far (p := ⟨gb277, 2, none⟩) (Kd.R_far (p := ⟨gb277, 1, none⟩) (Kd.R_far (p := ⟨gb277, 0, none⟩) (Kd.R_types HO272.out BK277.out (by decide)) (fun _ hk => hk.2) (.string t269)) (fun _ hk => hk.2) (.slice Ao49 t270.length co49)) (fun _ hk => hk.2) (.slice Ao50 t273.length co50)) (fun _ h_ => h_.1))) (Kd.R_base ho0) hb); have n2_ := ak (Kd.R_elder' (by (with_reducible repeat (first | apply Kd.R_alloc | apply Kd.R_drewN | apply Kd.R_drew)); exact (Kd.R_mono (Kd.R_far (p := ⟨gb277, 2, none⟩) (Kd.R_far (p := ⟨gb277, 1, none⟩) (Kd.R_far (p := ⟨gb277, 0, none⟩) (Kd.R_types HO275.out BK277.out (by decide)) (fun _ hk => hk.2) (.string t269)) (fun _ hk => hk.2) (.slice Ao49 t270.length co49)) (fun _ hk => hk.2) (.slice Ao50 t273.length co50)) (fun _ h_ => h_.1))) (Kd.R_base ho1) hb); have n3_ := ak (Kd.R_lower (Kd.R_new' ho0 (Kd.R_lt (by (with_reducible repeat (first | apply Kd.R_alloc | apply Kd.R_drewN | apply Kd.R_drew)); exact (Kd.R_mono (Kd.R_far (p := ⟨gb277, 2, none⟩) (Kd.R_far (p := ⟨gb277, 1, none⟩) (Kd.R_far (p := ⟨gb277, 0, none⟩) (Kd.R_types HO272.out BK277.out (by decide)) (fun _ hk => hk.2) (.string t269)) (fun _ hk => hk.2) (.slice Ao49 t270.length co49)) (fun _ hk => hk.2) (.slice Ao50 t273.length co50)) (fun _ h_ => h_.1))))) (below_size (by repeat (first | (with_reducible first | exact HB.out | apply below_alloc | apply pw_below_drewN | apply below_drew1 | refine below_set ?_ GE277.out) | exact HB.out)))); have n4_ := ak (Kd.R_lower (Kd.R_new' ho1 (Kd.R_lt (by (with_reducible repeat (first | apply Kd.R_alloc | apply Kd.R_drewN | apply Kd.R_drew)); exact (Kd.R_mono (Kd.R_far (p := ⟨gb277, 2, none⟩) (Kd.R_far (p := ⟨gb277, 1, none⟩) (Kd.R_far (p := ⟨gb277, 0, none⟩) (Kd.R_types HO275.out BK277.out (by decide)) (fun _ hk => hk.2) (.string t269)) (fun _ hk => hk.2) (.slice Ao49 t270.length co49)) (fun _ hk => hk.2) (.slice Ao50 t273.length co50)) (fun _ h_ => h_.1))))) (below_size (by repeat (first | (with_reducible first | exact HB.out | apply below_alloc | apply pw_below_drewN | apply below_drew1 | refine below_set ?_ GE277.out) | exact HB.out)))); have n5_ := ak (blk_below (g := gb277) (o := .cells #[.string t269, .slice Ao49 t270.length co49, .slice Ao50 t273.length co50] 29 (0, 0)) (by (with_reducible repeat (first | refine blk_drewN ?_ _ | refine blk_drew ?_ | refine blk_alloc ?_ _)); refine blk_put (cs := #[.string t269, .slice Ao49 t270.length co49, .slice none 0 0]) ?_ 2 _ rfl; (with_reducible repeat (first | refine blk_drewN ?_ _ | refine blk_drew ?_ | refine blk_alloc ?_ _)); refine blk_put (cs := #[.string t269, .slice none 0 0, .slice none 0 0]) ?_ 1 _ rfl; (with_reducible repeat (first | refine blk_drewN ?_ _ | refine blk_drew ?_ | refine blk_alloc ?_ _)); refine blk_put (cs := #[.string (⟨#[]⟩ : ByteArray), .slice none 0 0, .slice none 0 0]) ?_ 0 _ rfl; (with_reducible repeat (first | refine blk_drewN ?_ _ | refine blk_drew ?_ | refine blk_alloc ?_ _)); exact BK277.out) hb); have n6_ := ak (below_step (by repeat (first | (with_reducible first | exact HB.out | apply below_alloc | apply pw_below_drewN | apply below_drew1 | refine below_set ?_ GE277.out) | exact HB.out)) hb); clear HO_7; clear HO272; clear HO275; clear BK277; clear HB; have HO_7 := n0_; have HO272 := n1_; have HO275 := n2_; have HO281 := n3_; have HO284 := n4_; have BK277 := n5_; have HB := n6_; clear n0_ n1_ n2_ n3_ n4_ n5_ n6_; (try clear hb); (try clear hb2); (try clear hk); (try clear hi); (try clear ho0); (try clear ho1)) | ((with_reducible refine gate_dst (N := 13) rfl ?_); (try (refine gate_guard (by rfl) ?_; dsimp only)); refine box_event ?hg (N := 13) ?hd (cs := #[.string (⟨#[]⟩ : ByteArray), .slice none 0 0, .slice none 0 0]) (t := 29) ?hr ?_; (case hd => rfl); (case hg => rfl); (case hr => first | (go_simp; done) | (go_simp; rfl)); intro gb286 hg w52 hbox hb; have n0_ := ak (Kd.S_below (by (with_reducible repeat (first | apply Kd.S_alloc | apply Kd.S_drewN | apply Kd.S_drew)); exact HO_7.out) hb); have n1_ := ak (Kd.R_below (by (with_reducible repeat (first | apply Kd.R_alloc | apply Kd.R_drewN | apply Kd.R_drew)); exact HO272.out) hb); have n2_ := ak (Kd.R_below (by (with_reducible repeat (first | apply Kd.R_alloc | apply Kd.R_drewN | apply Kd.R_drew)); exact HO275.out) hb); have n3_ := ak (Kd.R_below (by (with_reducible repeat (first | apply Kd.R_alloc | apply Kd.R_drewN | apply Kd.R_drew)); exact HO281.out) hb); have n4_ := ak (Kd.R_below (by (with_reducible repeat (first | apply Kd.R_alloc | apply Kd.R_drewN | apply Kd.R_drew)); exact HO284.out) hb); have n5_ := ak (blk_below (g := gb277) (o := .cells #[.string t269, .slice Ao49 t270.length co49, .slice Ao50 t273.length co50] 29 (0, 0)) (by (with_reducible repeat (first | refine blk_drewN ?_ _ | refine blk_drew ?_ | refine blk_alloc ?_ _)); exact BK277.out) hb); have n6_ := ak (below_step (by repeat (first | (with_reducible first | exact HB.out | apply below_alloc | apply pw_below_drewN | apply below_drew1 | refine below_set ?_ GE277.out) | exact HB.out)) hb); have n7_ := ak (hbox); have n8_ := ak ((by rw [hg]; exact (below_size (by repeat (first | (with_reducible first | exact HB.out | apply below_alloc | apply pw_below_drewN | apply below_drew1 | refine below_set ?_ GE277.out) | exact HB.out))) : w.heap.size ≤ gb286)); have n9_ := ak ((by rw [hg]; exact (below_size (by repeat (first | (with_reducible first | exact HB.out | apply below_alloc | apply pw_below_drewN | apply below_drew1 | refine below_set ?_ GE277.out) | exact HB.out))) : w.heap.size ≤ gb286)); have n10_ := ak ((by rw [hg]; exact Nat.ne_of_lt (blk_lt (g := gb277) (o := .cells #[.string t269, .slice Ao49 t270.length co49, .slice Ao50 t273.length co50] 29 (0, 0)) (by (with_reducible repeat (first | refine blk_drewN ?_ _ | refine blk_drew ?_ | refine blk_alloc ?_ _)); exact BK277.out)) : gb277 ≠ gb286)); have n11_ := ak ((by rw [hg]; exact Nat.ne_of_gt (blk_lt (g := gb277) (o := .cells #[.string t269, .slice Ao49 t270.length co49, .slice Ao50 t273.length co50] 29 (0, 0)) (by (with_reducible repeat (first | refine blk_drewN ?_ _ | refine blk_drew ?_ | refine blk_alloc ?_ _)); exact BK277.out)) : gb286 ≠ gb277)); clear HO_7; clear HO272; clear HO275; clear HO281; clear HO284; clear BK277; clear HB; have HO_7 := n0_; have HO272 := n1_; have HO275 := n2_; have HO281 := n3_; have HO284 := n4_; have BK277 := n5_; have HB := n6_; have BK286 := n7_; have GW286 := n8_; have GE286 := n9_; have NB277_286 := n10_; have NB286_277 := n11_; clear n0_ n1_ n2_ n3_ n4_ n5_ n6_ n7_ n8_ n9_ n10_ n11_; clear hb hbox hg; have hnb53 := NB286_277.out; have hnc53 := NB277_286.out; have hcz54_0 : w52.cell? ⟨gb286, 0, none⟩ = some (.string (⟨#[]⟩ : ByteArray)) := (blk_cell BK286.out 0).trans rfl; have hcz54_1 : w52.cell? ⟨gb286, 1, none⟩ = some (.slice none 0 0) := (blk_cell BK286.out 1).trans rfl; have hcz54_2 : w52.cell? ⟨gb286, 2, none⟩ = some (.slice none 0 0) := (blk_cell BK286.out 2).trans rfl; have hfz54_0 := blk_frozen BK286.out 0; have hfz54_1 := blk_frozen BK286.out 1; have hfz54_2 := blk_frozen BK286.out 2; obtain ⟨Ao55, co55, eo55⟩ := Kd.R_slice HO281.out; subst eo55; obtain ⟨Ao56, co56, eo56⟩ := Kd.R_slice HO284.out; subst eo56)); go_upto_region 25 with (first | (go_at_call 12; (with_reducible refine (link_Link.calls _ _ l0 t269 t270 t273 t276 _ ?side1 ?side2 A42.out).mono ?_); (case side1 => repeat (first | exact (Kd.C_below HR0.out HB.out) | (with_reducible refine Kd.C_alloc ?_ _) | (with_reducible refine Kd.C_drewN ?_ _) | (with_reducible refine Kd.C_drew ?_))); (case side2 => exact HC0.out); rintro e w46 ⟨v271, v274, rfl, ho0, ho1, hb⟩; have n0_ := ak (Kd.S_mono (Kd.S_told (Kd.S_told (Kd.S_old (by (with_reducible repeat (first | apply Kd.S_alloc | apply Kd.S_drewN | apply Kd.S_drew)); exact HO_7.out) hb) (Kd.R_base ho0)) (Kd.R_base ho1)) (fun _ h_ => h_.1)); have n1_ := ak (Kd.R_lower ho0 (below_size (by repeat (first | (with_reducible first | exact HB.out | apply below_alloc | apply pw_below_drewN | apply below_drew1) | exact HB.out)))); have n2_ := ak (Kd.R_lower ho1 (below_size (by repeat (first | (with_reducible first | exact HB.out | apply below_alloc | apply pw_below_drewN | apply below_drew1) | exact HB.out)))); have n3_ := ak (below_step (by repeat (first | (with_reducible first | exact HB.out | apply below_alloc | apply pw_below_drewN | apply below_drew1) | exact HB.out)) hb); clear HO_7; clear HB; have HO_7 := n0_; have HO272 := n1_; have HO275 := n2_; have HB := n3_; clear n0_ n1_ n2_ n3_; (try clear hb); (try clear hb2); (try clear hk); (try clear hi); (try clear ho0); (try clear ho1)) | ((with_reducible refine gate_dst (N := 11) rfl ?_); (try (refine gate_guard (by rfl) ?_; dsimp only)); refine box_event ?hg (N := 11) ?hd (cs := #[.string (⟨#[]⟩ : ByteArray), .slice none 0 0, .slice none 0 0]) (t := 29) ?hr ?_; (case hd => rfl); (case hg => rfl); (case hr => first | (go_simp; done) | (go_simp; rfl)); intro gb277 hg w47 hbox hb; have n0_ := ak (Kd.S_below (by (with_reducible repeat (first | apply Kd.S_alloc | apply Kd.S_drewN | apply Kd.S_drew)); exact HO_7.out) hb); have n1_ := ak (Kd.R_below (by (with_reducible repeat (first | apply Kd.R_alloc | apply Kd.R_drewN | apply Kd.R_drew)); exact HO272.out) hb); have n2_ := ak (Kd.R_below (by (with_reducible repeat (first | apply Kd.R_alloc | apply Kd.R_drewN | apply Kd.R_drew)); exact HO275.out) hb); have n3_ := ak (below_step (by repeat (first | (with_reducible first | exact HB.out | apply below_alloc | apply pw_below_drewN | apply below_drew1) | exact HB.out)) hb); have n4_ := ak (hbox); have n5_ := ak ((by rw [hg]; exact (below_size (by repeat (first | (with_reducible first | exact HB.out | apply below_alloc | apply pw_below_drewN | apply below_drew1) | exact HB.out))) : w.heap.size ≤ gb277)); have n6_ := ak ((by rw [hg]; exact (below_size (by repeat (first | (with_reducible first | exact HB.out | apply below_alloc | apply pw_below_drewN | apply below_drew1) | exact HB.out))) : w.heap.size ≤ gb277)); clear HO_7; clear HO272; clear HO275; clear HB; have HO_7 := n0_; have HO272 := n1_; have HO275 := n2_; have HB := n3_; have BK277 := n4_; have GW277 := n5_; have GE277 := n6_; clear n0_ n1_ n2_ n3_ n4_ n5_ n6_; clear hb hbox hg; have hcz48_0 : w47.cell? ⟨gb277, 0, none⟩ = some (.string (⟨#[]⟩ : ByteArray)) := (blk_cell BK277.out 0).trans rfl; have hcz48_1 : w47.cell? ⟨gb277, 1, none⟩ = some (.slice none 0 0) := (blk_cell BK277.out 1).trans rfl; have hcz48_2 : w47.cell? ⟨gb277, 2, none⟩ = some (.slice none 0 0) := (blk_cell BK277.out 2).trans rfl; have hfz48_0 := blk_frozen BK277.out 0; have hfz48_1 := blk_frozen BK277.out 1; have hfz48_2 := blk_frozen BK277.out 2; obtain ⟨Ao49, co49, eo49⟩ := Kd.R_slice HO272.out; subst eo49; obtain ⟨Ao50, co50, eo50⟩ := Kd.R_slice HO275.out; subst eo50) | (go_at_call 12; (with_reducible refine (link_Link.calls _ _ x7_2 t278 t279 t282 t285 _ ?side1 ?side2 A43.out).mono ?_); (case side1 => refine (Kd.S_reads' (e := 40) (base := w.heap.size) (ok := fun k_ => ((True ∧ some k_ ≠ (.slice Ao49 t270.length co49 : Value).ownBlock) ∧ some k_ ≠ (.slice Ao50 t273.length co50 : Value).ownBlock)) (n := x7_2.length) (c := co45) ?_).2.2; exact (by (with_reducible repeat (first | apply Kd.S_alloc | apply Kd.S_drewN | apply Kd.S_drew)); exact (Kd.S_mono (Kd.S_far (p := ⟨gb277, 2, none⟩) (Kd.S_far (p := ⟨gb277, 1, none⟩) (Kd.S_far (p := ⟨gb277, 0, none⟩) (Kd.S_types HO_7.out BK277.out (by decide)) (fun _ hk => hk.2) (.string t269)) (fun _ hk => hk.2) (.slice Ao49 t270.length co49)) (fun _ hk => hk.2) (.slice Ao50 t273.length co50)) (fun _ h_ => h_.1)))); (case side2 => exact (Kd.S_reads' HO_7.out).2.1); rintro e w51 ⟨v280, v283, rfl, ho0, ho1, hb⟩; have n0_ := ak (Kd.S_mono (Kd.S_told (Kd.S_told (Kd.S_old (by (with_reducible repeat (first | apply Kd.S_alloc | apply Kd.S_drewN | apply Kd.S_drew)); exact (Kd.S_mono (Kd.S_far (p := ⟨gb277, 2, none⟩) (Kd.S_far (p := ⟨gb277, 1, none⟩) (Kd.S_far (p := ⟨gb277, 0, none⟩) (Kd.S_types HO_7.out BK277.out (by decide)) (fun _ hk => hk.2) (.string t269)) (fun _ hk => hk.2) (.slice Ao49 t270.length co49)) (fun _ hk => hk.2) (.slice Ao50 t273.length co50)) (fun _ h_ => h_.1))) hb) (Kd.R_base ho0)) (Kd.R_base ho1)) (fun _ h_ => h_.1)); have n1_ := ak (Kd.R_elder' (by (with_reducible repeat (first | apply Kd.R_alloc | apply Kd.R_drewN | apply Kd.R_drew)); exact (Kd.R_mono (Kd.R_far (p := ⟨gb277, 2, none⟩) (Kd.R_far (p := ⟨gb277, 1, none⟩) (Kd.R_far (p := ⟨gb277, 0, none⟩) (Kd.R_types HO272.out BK277.out (by decide)) (fun _ hk => hk.2) (.string t269)) (fun _ hk => hk.2) (.slice Ao49 t270.length co49)) (fun _ hk => hk.2) (.slice Ao50 t273.length co50)) (fun _ h_ => h_.1))) (Kd.R_base ho0) hb); have n2_ := ak (Kd.R_elder' (by (with_reducible repeat (first | apply Kd.R_alloc | apply Kd.R_drewN | apply Kd.R_drew)); exact (Kd.R_mono (Kd.R_far (p := ⟨gb277, 2, none⟩) (Kd.R_far (p := ⟨gb277, 1, none⟩) (Kd.R_far (p := ⟨gb277, 0, none⟩) (Kd.R_types HO275.out BK277.out (by decide)) (fun _ hk => hk.2) (.string t269)) (fun _ hk => hk.2) (.slice Ao49 t270.length co49)) (fun _ hk => hk.2) (.slice Ao50 t273.length co50)) (fun _ h_ => h_.1))) (Kd.R_base ho1) hb); have n3_ := ak (Kd.R_lower (Kd.R_new' ho0 (Kd.R_lt (by (with_reducible repeat (first | apply Kd.R_alloc | apply Kd.R_drewN | apply Kd.R_drew)); exact (Kd.R_mono (Kd.R_far (p := ⟨gb277, 2, none⟩) (Kd.R_far (p := ⟨gb277, 1, none⟩) (Kd.R_far (p := ⟨gb277, 0, none⟩) (Kd.R_types HO272.out BK277.out (by decide)) (fun _ hk => hk.2) (.string t269)) (fun _ hk => hk.2) (.slice Ao49 t270.length co49)) (fun _ hk => hk.2) (.slice Ao50 t273.length co50)) (fun _ h_ => h_.1))))) (below_size (by repeat (first | (with_reducible first | exact HB.out | apply below_alloc | apply pw_below_drewN | apply below_drew1 | refine below_set ?_ GE277.out) | exact HB.out)))); have n4_ := ak (Kd.R_lower (Kd.R_new' ho1 (Kd.R_lt (by (with_reducible repeat (first | apply Kd.R_alloc | apply Kd.R_drewN | apply Kd.R_drew)); exact (Kd.R_mono (Kd.R_far (p := ⟨gb277, 2, none⟩) (Kd.R_far (p := ⟨gb277, 1, none⟩) (Kd.R_far (p := ⟨gb277, 0, none⟩) (Kd.R_types HO275.out BK277.out (by decide)) (fun _ hk => hk.2) (.string t269)) (fun _ hk => hk.2) (.slice Ao49 t270.length co49)) (fun _ hk => hk.2) (.slice Ao50 t273.length co50)) (fun _ h_ => h_.1))))) (below_size (by repeat (first | (with_reducible first | exact HB.out | apply below_alloc | apply pw_below_drewN | apply below_drew1 | refine below_set ?_ GE277.out) | exact HB.out)))); have n5_ := ak (blk_below (g := gb277) (o := .cells #[.string t269, .slice Ao49 t270.length co49, .slice Ao50 t273.length co50] 29 (0, 0)) (by (with_reducible repeat (first | refine blk_drewN ?_ _ | refine blk_drew ?_ | refine blk_alloc ?_ _)); refine blk_put (cs := #[.string t269, .slice Ao49 t270.length co49, .slice none 0 0]) ?_ 2 _ rfl; (with_reducible repeat (first | refine blk_drewN ?_ _ | refine blk_drew ?_ | refine blk_alloc ?_ _)); refine blk_put (cs := #[.string t269, .slice none 0 0, .slice none 0 0]) ?_ 1 _ rfl; (with_reducible repeat (first | refine blk_drewN ?_ _ | refine blk_drew ?_ | refine blk_alloc ?_ _)); refine blk_put (cs := #[.string (⟨#[]⟩ : ByteArray), .slice none 0 0, .slice none 0 0]) ?_ 0 _ rfl; (with_reducible repeat (first | refine blk_drewN ?_ _ | refine blk_drew ?_ | refine blk_alloc ?_ _)); exact BK277.out) hb); have n6_ := ak (below_step (by repeat (first | (with_reducible first | exact HB.out | apply below_alloc | apply pw_below_drewN | apply below_drew1 | refine below_set ?_ GE277.out) | exact HB.out)) hb); clear HO_7; clear HO272; clear HO275; clear BK277; clear HB; have HO_7 := n0_; have HO272 := n1_; have HO275 := n2_; have HO281 := n3_; have HO284 := n4_; have BK277 := n5_; have HB := n6_; clear n0_ n1_ n2_ n3_ n4_ n5_ n6_; (try clear hb); (try clear hb2); (try clear hk); (try clear hi); (try clear ho0); (try clear ho1)) | ((with_reducible refine gate_dst (N := 13) rfl ?_); (try (refine gate_guard (by rfl) ?_; dsimp only)); refine box_event ?hg (N := 13) ?hd (cs := #[.string (⟨#[]⟩ : ByteArray), .slice none 0 0, .slice none 0 0]) (t := 29) ?hr ?_; (case hd => rfl); (case hg => rfl); (case hr => first | (go_simp; done) | (go_simp; rfl)); intro gb286 hg w52 hbox hb; have n0_ := ak (Kd.S_below (by (with_reducible repeat (first | apply Kd.S_alloc | apply Kd.S_drewN | apply Kd.S_drew)); exact HO_7.out) hb); have n1_ := ak (Kd.R_below (by (with_reducible repeat (first | apply Kd.R_alloc | apply Kd.R_drewN | apply Kd.R_drew)); exact HO272.out) hb); have n2_ := ak (Kd.R_below (by (with_reducible repeat (first | apply Kd.R_alloc | apply Kd.R_drewN | apply Kd.R_drew)); exact HO275.out) hb); have n3_ := ak (Kd.R_below (by (with_reducible repeat (first | apply Kd.R_alloc | apply Kd.R_drewN | apply Kd.R_drew)); exact HO281.out) hb); have n4_ := ak (Kd.R_below (by (with_reducible repeat (first | apply Kd.R_alloc | apply Kd.R_drewN | apply Kd.R_drew)); exact HO284.out) hb); have n5_ := ak (blk_below (g := gb277) (o := .cells #[.string t269, .slice Ao49 t270.length co49, .slice Ao50 t273.length co50] 29 (0, 0)) (by (with_reducible repeat (first | refine blk_drewN ?_ _ | refine blk_drew ?_ | refine blk_alloc ?_ _)); exact BK277.out) hb); have n6_ := ak (below_step (by repeat (first | (with_reducible first | exact HB.out | apply below_alloc | apply pw_below_drewN | apply below_drew1 | refine below_set ?_ GE277.out) | exact HB.out)) hb); have n7_ := ak (hbox); have n8_ := ak ((by rw [hg]; exact (below_size (by repeat (first | (with_reducible first | exact HB.out | apply below_alloc | apply pw_below_drewN | apply below_drew1 | refine below_set ?_ GE277.out) | exact HB.out))) : w.heap.size ≤ gb286)); have n9_ := ak ((by rw [hg]; exact (below_size (by repeat (first | (with_reducible first | exact HB.out | apply below_alloc | apply pw_below_drewN | apply below_drew1 | refine below_set ?_ GE277.out) | exact HB.out))) : w.heap.size ≤ gb286)); have n10_ := ak ((by rw [hg]; exact Nat.ne_of_lt (blk_lt (g := gb277) (o := .cells #[.string t269, .slice Ao49 t270.length co49, .slice Ao50 t273.length co50] 29 (0, 0)) (by (with_reducible repeat (first | refine blk_drewN ?_ _ | refine blk_drew ?_ | refine blk_alloc ?_ _)); exact BK277.out)) : gb277 ≠ gb286)); have n11_ := ak ((by rw [hg]; exact Nat.ne_of_gt (blk_lt (g := gb277) (o := .cells #[.string t269, .slice Ao49 t270.length co49, .slice Ao50 t273.length co50] 29 (0, 0)) (by (with_reducible repeat (first | refine blk_drewN ?_ _ | refine blk_drew ?_ | refine blk_alloc ?_ _)); exact BK277.out)) : gb286 ≠ gb277)); clear HO_7; clear HO272; clear HO275; clear HO281; clear HO284; clear BK277; clear HB; have HO_7 := n0_; have HO272 := n1_; have HO275 := n2_; have HO281 := n3_; have HO284 := n4_; have BK277 := n5_; have HB := n6_; have BK286 := n7_; have GW286 := n8_; have GE286 := n9_; have NB277_286 := n10_; have NB286_277 := n11_; clear n0_ n1_ n2_ n3_ n4_ n5_ n6_ n7_ n8_ n9_ n10_ n11_; clear hb hbox hg; have hnb53 := NB286_277.out; have hnc53 := NB277_286.out; have hcz54_0 : w52.cell? ⟨gb286, 0, none⟩ = some (.string (⟨#[]⟩ : ByteArray)) := (blk_cell BK286.out 0).trans rfl; have hcz54_1 : w52.cell? ⟨gb286, 1, none⟩ = some (.slice none 0 0) := (blk_cell BK286.out 1).trans rfl; have hcz54_2 : w52.cell? ⟨gb286, 2, none⟩ = some (.slice none 0 0) := (blk_cell BK286.out 2).trans rfl; have hfz54_0 := blk_frozen BK286.out 0; have hfz54_1 := blk_frozen BK286.out 1; have hfz54_2 := blk_frozen BK286.out 2; obtain ⟨Ao55, co55, eo55⟩ := Kd.R_slice HO281.out; subst eo55; obtain ⟨Ao56, co56, eo56⟩ := Kd.R_slice HO284.out; subst eo56)))
        (try simp only [Act.put, sA, sZ, sS])
        go_cut [165] (fun v165 wc => ∃ (kq : Nat) (x165_43 : Bool), v165 = .bool x165_43 ∧ Aside0 (LNa.j4 kq a1 x165_43 t269 t270 t273 t278 t279 t282 = some r) ∧ Aside0 (kq ≤ k2) ∧ Aside0 (Kd.R (Kd.int .i64) 2 wc w.heap.size (fun k_ => some k_ ≠ ((.slice Ao55 t279.length co55) : Value).ownBlock) (.slice Ao49 t270.length co49) t270) ∧ Aside0 (Kd.R k36 36 wc w.heap.size (fun k_ => some k_ ≠ ((.slice Ao56 t282.length co56) : Value).ownBlock) (.slice Ao50 t273.length co50) t273) ∧ Aside0 (Kd.R (Kd.int .i64) 2 wc w.heap.size (fun k_ => some k_ ≠ ((.slice Ao49 t270.length co49) : Value).ownBlock) (.slice Ao55 t279.length co55) t279) ∧ Aside0 (Kd.R k36 36 wc w.heap.size (fun k_ => some k_ ≠ ((.slice Ao50 t273.length co50) : Value).ownBlock) (.slice Ao56 t282.length co56) t282) ∧ Aside0 (wc.heap[gb277]? = some (.cells #[.string t269, (.slice Ao49 t270.length co49), (.slice Ao50 t273.length co50)] 29 (0, 0))) ∧ Aside0 (wc.heap[gb286]? = some (.cells #[.string t278, (.slice Ao55 t279.length co55), (.slice Ao56 t282.length co56)] 29 (0, 0))) ∧ Aside0 (Below w.heap.size w wc))
        case first =>
         have H := HC44.out
         clear HC44
         by_cases c57 : t276 = t285
         ·rw [if_pos c57] at H
          have c57b0 : (t276 == t285) = true := beq_iff_eq.mpr c57
          have c57b1 : (t276 != t285) = false := bne_eq_false_iff_eq.mpr c57
          clear c57
          (first | rw [c57b0] | (simp only [i64_w, i32_w]; rw [c57b0]) | skip)
          by_cases c58 : t269.toList = t278.toList
          ·rw [if_pos c58] at H
           have c58b0 : (t269.toList == t278.toList) = true := beq_iff_eq.mpr c58
           have c58b1 : (t269.toList != t278.toList) = false := bne_eq_false_iff_eq.mpr c58
           clear c58
           replace H := Option.bind_eq_some_iff.mp H
           obtain ⟨t287, A590, H⟩ := H
           replace H : (if t287 = true then (LNa.j4 k2 a1 ((t273.length : Int) != (t282.length : Int)) t269 t270 t273 t278 t279 t282) else (LNa.j4 k2 a1 true t269 t270 t273 t278 t279 t282)) = some r := H
           have A59 := ak A590
           clear A590
           by_cases c60 : t287 = true
           ·subst c60
            have H1 : (LNa.j4 k2 a1 ((t273.length : Int) != (t282.length : Int)) t269 t270 t273 t278 t279 t282) = some r := by rw [if_pos rfl] at H; exact H
            clear H
            have H := H1
            clear H1
            have H' := ak H
            clear H
            have hnb61 := NB277_286.out
            have hnc61 := NB286_277.out
            have hcz62_0 : w52.cell? ⟨gb277, 0, none⟩ = some (.string t269) := (blk_cell BK277.out 0).trans rfl
            have hcz62_1 : w52.cell? ⟨gb277, 1, none⟩ = some (.slice Ao49 t270.length co49) := (blk_cell BK277.out 1).trans rfl
            have hcz62_2 : w52.cell? ⟨gb277, 2, none⟩ = some (.slice Ao50 t273.length co50) := (blk_cell BK277.out 2).trans rfl
            have hfz62_0 := blk_frozen BK277.out 0
            have hfz62_1 := blk_frozen BK277.out 1
            have hfz62_2 := blk_frozen BK277.out 2
            have hcz63_0 : w52.cell? ⟨gb286, 0, none⟩ = some (.string (⟨#[]⟩ : ByteArray)) := (blk_cell BK286.out 0).trans rfl
            have hcz63_1 : w52.cell? ⟨gb286, 1, none⟩ = some (.slice none 0 0) := (blk_cell BK286.out 1).trans rfl
            have hcz63_2 : w52.cell? ⟨gb286, 2, none⟩ = some (.slice none 0 0) := (blk_cell BK286.out 2).trans rfl
            have hfz63_0 := blk_frozen BK286.out 0
            have hfz63_1 := blk_frozen BK286.out 1
            have hfz63_2 := blk_frozen BK286.out 2
            as_aux_lemma =>
             go_wp2_with (first | (go_at_call 16; (with_reducible refine (cotterref06_SameData.calls k2 _ _ t270 _ _ t279 true _ ?side1 ?side2 ?side3 ?side4 A59.out).mono ?_); (case side1 => refine (Kd.R_reads' (e := 2) (base := w.heap.size) (ok := fun k_ => (True ∧ some k_ ≠ (.slice Ao55 t279.length co55 : Value).ownBlock)) (n := t270.length) (c := co49) ?_).2.2; exact (by (with_reducible repeat (first | apply Kd.R_alloc | apply Kd.R_drewN | apply Kd.R_drew)); exact (Kd.R_mono (Kd.R_far (p := ⟨gb286, 2, none⟩) (Kd.R_far (p := ⟨gb286, 1, none⟩) (Kd.R_far (p := ⟨gb286, 0, none⟩) (Kd.R_types HO272.out BK286.out (by decide)) (fun _ hk => hk.2) (.string t278)) (fun _ hk => hk.2) (.slice Ao55 t279.length co55)) (fun _ hk => hk.2) (.slice Ao56 t282.length co56)) (fun _ h_ => h_.1)))); (case side2 => exact (Kd.R_reads' HO272.out).2.1); (case side3 => refine (Kd.R_reads' (e := 2) (base := w.heap.size) (ok := fun k_ => (True ∧ some k_ ≠ (.slice Ao49 t270.length co49 : Value).ownBlock)) (n := t279.length) (c := co55) ?_).2.2; exact (by (with_reducible repeat (first | apply Kd.R_alloc | apply Kd.R_drewN | apply Kd.R_drew)); exact (Kd.R_mono (Kd.R_far (p := ⟨gb286, 2, none⟩) (Kd.R_far (p := ⟨gb286, 1, none⟩) (Kd.R_far (p := ⟨gb286, 0, none⟩) (Kd.R_types HO281.out BK286.out (by decide)) (fun _ hk => hk.2) (.string t278)) (fun _ hk => hk.2) (.slice Ao55 t279.length co55)) (fun _ hk => hk.2) (.slice Ao56 t282.length co56)) (fun _ h_ => h_.1)))); (case side4 => exact (Kd.R_reads' HO281.out).2.1); rintro e w' ⟨rfl, ⟨nd, rfl⟩⟩; (try first | exact ⟨rfl, _, World.drewN_drewN _ _ _⟩ | exact ⟨rfl, _, Eq.trans (World.drewN_drewN _ _ _) (congrArg (World.drewN _) (Nat.add_assoc _ _ _))⟩)))
             repeat (go_quiet (first | (go_at_call 16; (with_reducible refine (cotterref06_SameData.calls k2 _ _ t270 _ _ t279 true _ ?side1 ?side2 ?side3 ?side4 A59.out).mono ?_); (case side1 => refine (Kd.R_reads' (e := 2) (base := w.heap.size) (ok := fun k_ => (True ∧ some k_ ≠ (.slice Ao55 t279.length co55 : Value).ownBlock)) (n := t270.length) (c := co49) ?_).2.2; exact (by (with_reducible repeat (first | apply Kd.R_alloc | apply Kd.R_drewN | apply Kd.R_drew)); exact (Kd.R_mono (Kd.R_far (p := ⟨gb286, 2, none⟩) (Kd.R_far (p := ⟨gb286, 1, none⟩) (Kd.R_far (p := ⟨gb286, 0, none⟩) (Kd.R_types HO272.out BK286.out (by decide)) (fun _ hk => hk.2) (.string t278)) (fun _ hk => hk.2) (.slice Ao55 t279.length co55)) (fun _ hk => hk.2) (.slice Ao56 t282.length co56)) (fun _ h_ => h_.1)))); (case side2 => exact (Kd.R_reads' HO272.out).2.1); (case side3 => refine (Kd.R_reads' (e := 2) (base := w.heap.size) (ok := fun k_ => (True ∧ some k_ ≠ (.slice Ao49 t270.length co49 : Value).ownBlock)) (n := t279.length) (c := co55) ?_).2.2; exact (by (with_reducible repeat (first | apply Kd.R_alloc | apply Kd.R_drewN | apply Kd.R_drew)); exact (Kd.R_mono (Kd.R_far (p := ⟨gb286, 2, none⟩) (Kd.R_far (p := ⟨gb286, 1, none⟩) (Kd.R_far (p := ⟨gb286, 0, none⟩) (Kd.R_types HO281.out BK286.out (by decide)) (fun _ hk => hk.2) (.string t278)) (fun _ hk => hk.2) (.slice Ao55 t279.length co55)) (fun _ hk => hk.2) (.slice Ao56 t282.length co56)) (fun _ h_ => h_.1)))); (case side4 => exact (Kd.R_reads' HO281.out).2.1); rintro e w' ⟨rfl, ⟨nd, rfl⟩⟩; (try first | exact ⟨rfl, _, World.drewN_drewN _ _ _⟩ | exact ⟨rfl, _, Eq.trans (World.drewN_drewN _ _ _) (congrArg (World.drewN _) (Nat.add_assoc _ _ _))⟩))); try go_wp2_with (first | (go_at_call 16; (with_reducible refine (cotterref06_SameData.calls k2 _ _ t270 _ _ t279 true _ ?side1 ?side2 ?side3 ?side4 A59.out).mono ?_); (case side1 => refine (Kd.R_reads' (e := 2) (base := w.heap.size) (ok := fun k_ => (True ∧ some k_ ≠ (.slice Ao55 t279.length co55 : Value).ownBlock)) (n := t270.length) (c := co49) ?_).2.2; exact (by (with_reducible repeat (first | apply Kd.R_alloc | apply Kd.R_drewN | apply Kd.R_drew)); exact (Kd.R_mono (Kd.R_far (p := ⟨gb286, 2, none⟩) (Kd.R_far (p := ⟨gb286, 1, none⟩) (Kd.R_far (p := ⟨gb286, 0, none⟩) (Kd.R_types HO272.out BK286.out (by decide)) (fun _ hk => hk.2) (.string t278)) (fun _ hk => hk.2) (.slice Ao55 t279.length co55)) (fun _ hk => hk.2) (.slice Ao56 t282.length co56)) (fun _ h_ => h_.1)))); (case side2 => exact (Kd.R_reads' HO272.out).2.1); (case side3 => refine (Kd.R_reads' (e := 2) (base := w.heap.size) (ok := fun k_ => (True ∧ some k_ ≠ (.slice Ao49 t270.length co49 : Value).ownBlock)) (n := t279.length) (c := co55) ?_).2.2; exact (by (with_reducible repeat (first | apply Kd.R_alloc | apply Kd.R_drewN | apply Kd.R_drew)); exact (Kd.R_mono (Kd.R_far (p := ⟨gb286, 2, none⟩) (Kd.R_far (p := ⟨gb286, 1, none⟩) (Kd.R_far (p := ⟨gb286, 0, none⟩) (Kd.R_types HO281.out BK286.out (by decide)) (fun _ hk => hk.2) (.string t278)) (fun _ hk => hk.2) (.slice Ao55 t279.length co55)) (fun _ hk => hk.2) (.slice Ao56 t282.length co56)) (fun _ h_ => h_.1)))); (case side4 => exact (Kd.R_reads' HO281.out).2.1); rintro e w' ⟨rfl, ⟨nd, rfl⟩⟩; (try first | exact ⟨rfl, _, World.drewN_drewN _ _ _⟩ | exact ⟨rfl, _, Eq.trans (World.drewN_drewN _ _ _) (congrArg (World.drewN _) (Nat.add_assoc _ _ _))⟩))))
             go_meet
             case rel => exact ⟨_, (((t273.length : Int) != (t282.length : Int))), (by first | rfl | (simp; done) | (simp [*]; done)), H', ⟨by have := HJ3.out; have := HK2.out; first | omega | exact Nat.le_refl _⟩, ⟨by (with_reducible repeat (first | apply Kd.R_alloc | apply Kd.R_drewN | apply Kd.R_drew)); exact Kd.R_mono (Kd.R_far (p := ⟨gb286, 2, none⟩) (Kd.R_far (p := ⟨gb286, 1, none⟩) (Kd.R_far (p := ⟨gb286, 0, none⟩) (Kd.R_types HO272.out BK286.out (by decide)) (fun _ hk => hk.2) (.string t278)) (fun _ hk => hk.2) (.slice Ao55 t279.length co55)) (fun _ hk => hk.2) (.slice Ao56 t282.length co56)) (fun _ hk => hk.1.2)⟩, ⟨by (with_reducible repeat (first | apply Kd.R_alloc | apply Kd.R_drewN | apply Kd.R_drew)); exact Kd.R_mono (Kd.R_far (p := ⟨gb286, 2, none⟩) (Kd.R_far (p := ⟨gb286, 1, none⟩) (Kd.R_far (p := ⟨gb286, 0, none⟩) (Kd.R_types HO275.out BK286.out (by decide)) (fun _ hk => hk.2) (.string t278)) (fun _ hk => hk.2) (.slice Ao55 t279.length co55)) (fun _ hk => hk.2) (.slice Ao56 t282.length co56)) (fun _ hk => hk.1.2)⟩, ⟨by (with_reducible repeat (first | apply Kd.R_alloc | apply Kd.R_drewN | apply Kd.R_drew)); exact Kd.R_mono (Kd.R_far (p := ⟨gb286, 2, none⟩) (Kd.R_far (p := ⟨gb286, 1, none⟩) (Kd.R_far (p := ⟨gb286, 0, none⟩) (Kd.R_types HO281.out BK286.out (by decide)) (fun _ hk => hk.2) (.string t278)) (fun _ hk => hk.2) (.slice Ao55 t279.length co55)) (fun _ hk => hk.2) (.slice Ao56 t282.length co56)) (fun _ hk => hk.1.2)⟩, ⟨by (with_reducible repeat (first | apply Kd.R_alloc | apply Kd.R_drewN | apply Kd.R_drew)); exact Kd.R_mono (Kd.R_far (p := ⟨gb286, 2, none⟩) (Kd.R_far (p := ⟨gb286, 1, none⟩) (Kd.R_far (p := ⟨gb286, 0, none⟩) (Kd.R_types HO284.out BK286.out (by decide)) (fun _ hk => hk.2) (.string t278)) (fun _ hk => hk.2) (.slice Ao55 t279.length co55)) (fun _ hk => hk.2) (.slice Ao56 t282.length co56)) (fun _ hk => hk.1.2)⟩, ⟨by (with_reducible repeat (first | refine blk_drewN ?_ _ | refine blk_drew ?_ | refine blk_alloc ?_ _)); refine blk_far ?_ NB277_286.out _; (with_reducible repeat (first | refine blk_drewN ?_ _ | refine blk_drew ?_ | refine blk_alloc ?_ _)); refine blk_far ?_ NB277_286.out _; (with_reducible repeat (first | refine blk_drewN ?_ _ | refine blk_drew ?_ | refine blk_alloc ?_ _)); refine blk_far ?_ NB277_286.out _; (with_reducible repeat (first | refine blk_drewN ?_ _ | refine blk_drew ?_ | refine blk_alloc ?_ _)); exact BK277.out⟩, ⟨by (with_reducible repeat (first | refine blk_drewN ?_ _ | refine blk_drew ?_ | refine blk_alloc ?_ _)); refine blk_put (cs := #[.string t278, .slice Ao55 t279.length co55, .slice none 0 0]) ?_ 2 _ rfl; (with_reducible repeat (first | refine blk_drewN ?_ _ | refine blk_drew ?_ | refine blk_alloc ?_ _)); refine blk_put (cs := #[.string t278, .slice none 0 0, .slice none 0 0]) ?_ 1 _ rfl; (with_reducible repeat (first | refine blk_drewN ?_ _ | refine blk_drew ?_ | refine blk_alloc ?_ _)); refine blk_put (cs := #[.string (⟨#[]⟩ : ByteArray), .slice none 0 0, .slice none 0 0]) ?_ 0 _ rfl; (with_reducible repeat (first | refine blk_drewN ?_ _ | refine blk_drew ?_ | refine blk_alloc ?_ _)); exact BK286.out⟩, ⟨by repeat (first | (with_reducible first | exact HB.out | apply below_alloc | apply pw_below_drewN | apply below_drew1 | refine below_set ?_ GE277.out | refine below_set ?_ GE286.out) | exact HB.out)⟩⟩
           ·replace c60 := Bool.eq_false_iff.mpr c60
            subst c60
            have H1 : (LNa.j4 k2 a1 true t269 t270 t273 t278 t279 t282) = some r := by rw [if_neg (show ¬ (false = true) by decide)] at H; exact H
            clear H
            have H := H1
            clear H1
            have H' := ak H
            clear H
            have hnb64 := NB277_286.out
            have hnc64 := NB286_277.out
            have hcz65_0 : w52.cell? ⟨gb277, 0, none⟩ = some (.string t269) := (blk_cell BK277.out 0).trans rfl
            have hcz65_1 : w52.cell? ⟨gb277, 1, none⟩ = some (.slice Ao49 t270.length co49) := (blk_cell BK277.out 1).trans rfl
            have hcz65_2 : w52.cell? ⟨gb277, 2, none⟩ = some (.slice Ao50 t273.length co50) := (blk_cell BK277.out 2).trans rfl
            have hfz65_0 := blk_frozen BK277.out 0
            have hfz65_1 := blk_frozen BK277.out 1
            have hfz65_2 := blk_frozen BK277.out 2
            have hcz66_0 : w52.cell? ⟨gb286, 0, none⟩ = some (.string (⟨#[]⟩ : ByteArray)) := (blk_cell BK286.out 0).trans rfl
            have hcz66_1 : w52.cell? ⟨gb286, 1, none⟩ = some (.slice none 0 0) := (blk_cell BK286.out 1).trans rfl
            have hcz66_2 : w52.cell? ⟨gb286, 2, none⟩ = some (.slice none 0 0) := (blk_cell BK286.out 2).trans rfl
            have hfz66_0 := blk_frozen BK286.out 0
            have hfz66_1 := blk_frozen BK286.out 1
            have hfz66_2 := blk_frozen BK286.out 2
            as_aux_lemma =>
             go_wp2_with (first | (go_at_call 16; (with_reducible refine (cotterref06_SameData.calls k2 _ _ t270 _ _ t279 false _ ?side1 ?side2 ?side3 ?side4 A59.out).mono ?_); (case side1 => refine (Kd.R_reads' (e := 2) (base := w.heap.size) (ok := fun k_ => (True ∧ some k_ ≠ (.slice Ao55 t279.length co55 : Value).ownBlock)) (n := t270.length) (c := co49) ?_).2.2; exact (by (with_reducible repeat (first | apply Kd.R_alloc | apply Kd.R_drewN | apply Kd.R_drew)); exact (Kd.R_mono (Kd.R_far (p := ⟨gb286, 2, none⟩) (Kd.R_far (p := ⟨gb286, 1, none⟩) (Kd.R_far (p := ⟨gb286, 0, none⟩) (Kd.R_types HO272.out BK286.out (by decide)) (fun _ hk => hk.2) (.string t278)) (fun _ hk => hk.2) (.slice Ao55 t279.length co55)) (fun _ hk => hk.2) (.slice Ao56 t282.length co56)) (fun _ h_ => h_.1)))); (case side2 => exact (Kd.R_reads' HO272.out).2.1); (case side3 => refine (Kd.R_reads' (e := 2) (base := w.heap.size) (ok := fun k_ => (True ∧ some k_ ≠ (.slice Ao49 t270.length co49 : Value).ownBlock)) (n := t279.length) (c := co55) ?_).2.2; exact (by (with_reducible repeat (first | apply Kd.R_alloc | apply Kd.R_drewN | apply Kd.R_drew)); exact (Kd.R_mono (Kd.R_far (p := ⟨gb286, 2, none⟩) (Kd.R_far (p := ⟨gb286, 1, none⟩) (Kd.R_far (p := ⟨gb286, 0, none⟩) (Kd.R_types HO281.out BK286.out (by decide)) (fun _ hk => hk.2) (.string t278)) (fun _ hk => hk.2) (.slice Ao55 t279.length co55)) (fun _ hk => hk.2) (.slice Ao56 t282.length co56)) (fun _ h_ => h_.1)))); (case side4 => exact (Kd.R_reads' HO281.out).2.1); rintro e w' ⟨rfl, ⟨nd, rfl⟩⟩; (try first | exact ⟨rfl, _, World.drewN_drewN _ _ _⟩ | exact ⟨rfl, _, Eq.trans (World.drewN_drewN _ _ _) (congrArg (World.drewN _) (Nat.add_assoc _ _ _))⟩)))
             repeat (go_quiet (first | (go_at_call 16; (with_reducible refine (cotterref06_SameData.calls k2 _ _ t270 _ _ t279 false _ ?side1 ?side2 ?side3 ?side4 A59.out).mono ?_); (case side1 => refine (Kd.R_reads' (e := 2) (base := w.heap.size) (ok := fun k_ => (True ∧ some k_ ≠ (.slice Ao55 t279.length co55 : Value).ownBlock)) (n := t270.length) (c := co49) ?_).2.2; exact (by (with_reducible repeat (first | apply Kd.R_alloc | apply Kd.R_drewN | apply Kd.R_drew)); exact (Kd.R_mono (Kd.R_far (p := ⟨gb286, 2, none⟩) (Kd.R_far (p := ⟨gb286, 1, none⟩) (Kd.R_far (p := ⟨gb286, 0, none⟩) (Kd.R_types HO272.out BK286.out (by decide)) (fun _ hk => hk.2) (.string t278)) (fun _ hk => hk.2) (.slice Ao55 t279.length co55)) (fun _ hk => hk.2) (.slice Ao56 t282.length co56)) (fun _ h_ => h_.1)))); (case side2 => exact (Kd.R_reads' HO272.out).2.1); (case side3 => refine (Kd.R_reads' (e := 2) (base := w.heap.size) (ok := fun k_ => (True ∧ some k_ ≠ (.slice Ao49 t270.length co49 : Value).ownBlock)) (n := t279.length) (c := co55) ?_).2.2; exact (by (with_reducible repeat (first | apply Kd.R_alloc | apply Kd.R_drewN | apply Kd.R_drew)); exact (Kd.R_mono (Kd.R_far (p := ⟨gb286, 2, none⟩) (Kd.R_far (p := ⟨gb286, 1, none⟩) (Kd.R_far (p := ⟨gb286, 0, none⟩) (Kd.R_types HO281.out BK286.out (by decide)) (fun _ hk => hk.2) (.string t278)) (fun _ hk => hk.2) (.slice Ao55 t279.length co55)) (fun _ hk => hk.2) (.slice Ao56 t282.length co56)) (fun _ h_ => h_.1)))); (case side4 => exact (Kd.R_reads' HO281.out).2.1); rintro e w' ⟨rfl, ⟨nd, rfl⟩⟩; (try first | exact ⟨rfl, _, World.drewN_drewN _ _ _⟩ | exact ⟨rfl, _, Eq.trans (World.drewN_drewN _ _ _) (congrArg (World.drewN _) (Nat.add_assoc _ _ _))⟩))); try go_wp2_with (first | (go_at_call 16; (with_reducible refine (cotterref06_SameData.calls k2 _ _ t270 _ _ t279 false _ ?side1 ?side2 ?side3 ?side4 A59.out).mono ?_); (case side1 => refine (Kd.R_reads' (e := 2) (base := w.heap.size) (ok := fun k_ => (True ∧ some k_ ≠ (.slice Ao55 t279.length co55 : Value).ownBlock)) (n := t270.length) (c := co49) ?_).2.2; exact (by (with_reducible repeat (first | apply Kd.R_alloc | apply Kd.R_drewN | apply Kd.R_drew)); exact (Kd.R_mono (Kd.R_far (p := ⟨gb286, 2, none⟩) (Kd.R_far (p := ⟨gb286, 1, none⟩) (Kd.R_far (p := ⟨gb286, 0, none⟩) (Kd.R_types HO272.out BK286.out (by decide)) (fun _ hk => hk.2) (.string t278)) (fun _ hk => hk.2) (.slice Ao55 t279.length co55)) (fun _ hk => hk.2) (.slice Ao56 t282.length co56)) (fun _ h_ => h_.1)))); (case side2 => exact (Kd.R_reads' HO272.out).2.1); (case side3 => refine (Kd.R_reads' (e := 2) (base := w.heap.size) (ok := fun k_ => (True ∧ some k_ ≠ (.slice Ao49 t270.length co49 : Value).ownBlock)) (n := t279.length) (c := co55) ?_).2.2; exact (by (with_reducible repeat (first | apply Kd.R_alloc | apply Kd.R_drewN | apply Kd.R_drew)); exact (Kd.R_mono (Kd.R_far (p := ⟨gb286, 2, none⟩) (Kd.R_far (p := ⟨gb286, 1, none⟩) (Kd.R_far (p := ⟨gb286, 0, none⟩) (Kd.R_types HO281.out BK286.out (by decide)) (fun _ hk => hk.2) (.string t278)) (fun _ hk => hk.2) (.slice Ao55 t279.length co55)) (fun _ hk => hk.2) (.slice Ao56 t282.length co56)) (fun _ h_ => h_.1)))); (case side4 => exact (Kd.R_reads' HO281.out).2.1); rintro e w' ⟨rfl, ⟨nd, rfl⟩⟩; (try first | exact ⟨rfl, _, World.drewN_drewN _ _ _⟩ | exact ⟨rfl, _, Eq.trans (World.drewN_drewN _ _ _) (congrArg (World.drewN _) (Nat.add_assoc _ _ _))⟩))))
             go_meet
             case rel => exact ⟨_, (true), (by first | rfl | (simp; done) | (simp [*]; done)), H', ⟨by have := HJ3.out; have := HK2.out; first | omega | exact Nat.le_refl _⟩, ⟨by (with_reducible repeat (first | apply Kd.R_alloc | apply Kd.R_drewN | apply Kd.R_drew)); exact Kd.R_mono (Kd.R_far (p := ⟨gb286, 2, none⟩) (Kd.R_far (p := ⟨gb286, 1, none⟩) (Kd.R_far (p := ⟨gb286, 0, none⟩) (Kd.R_types HO272.out BK286.out (by decide)) (fun _ hk => hk.2) (.string t278)) (fun _ hk => hk.2) (.slice Ao55 t279.length co55)) (fun _ hk => hk.2) (.slice Ao56 t282.length co56)) (fun _ hk => hk.1.2)⟩, ⟨by (with_reducible repeat (first | apply Kd.R_alloc | apply Kd.R_drewN | apply Kd.R_drew)); exact Kd.R_mono (Kd.R_far (p := ⟨gb286, 2, none⟩) (Kd.R_far (p := ⟨gb286, 1, none⟩) (Kd.R_far (p := ⟨gb286, 0, none⟩) (Kd.R_types HO275.out BK286.out (by decide)) (fun _ hk => hk.2) (.string t278)) (fun _ hk => hk.2) (.slice Ao55 t279.length co55)) (fun _ hk => hk.2) (.slice Ao56 t282.length co56)) (fun _ hk => hk.1.2)⟩, ⟨by (with_reducible repeat (first | apply Kd.R_alloc | apply Kd.R_drewN | apply Kd.R_drew)); exact Kd.R_mono (Kd.R_far (p := ⟨gb286, 2, none⟩) (Kd.R_far (p := ⟨gb286, 1, none⟩) (Kd.R_far (p := ⟨gb286, 0, none⟩) (Kd.R_types HO281.out BK286.out (by decide)) (fun _ hk => hk.2) (.string t278)) (fun _ hk => hk.2) (.slice Ao55 t279.length co55)) (fun _ hk => hk.2) (.slice Ao56 t282.length co56)) (fun _ hk => hk.1.2)⟩, ⟨by (with_reducible repeat (first | apply Kd.R_alloc | apply Kd.R_drewN | apply Kd.R_drew)); exact Kd.R_mono (Kd.R_far (p := ⟨gb286, 2, none⟩) (Kd.R_far (p := ⟨gb286, 1, none⟩) (Kd.R_far (p := ⟨gb286, 0, none⟩) (Kd.R_types HO284.out BK286.out (by decide)) (fun _ hk => hk.2) (.string t278)) (fun _ hk => hk.2) (.slice Ao55 t279.length co55)) (fun _ hk => hk.2) (.slice Ao56 t282.length co56)) (fun _ hk => hk.1.2)⟩, ⟨by (with_reducible repeat (first | refine blk_drewN ?_ _ | refine blk_drew ?_ | refine blk_alloc ?_ _)); refine blk_far ?_ NB277_286.out _; (with_reducible repeat (first | refine blk_drewN ?_ _ | refine blk_drew ?_ | refine blk_alloc ?_ _)); refine blk_far ?_ NB277_286.out _; (with_reducible repeat (first | refine blk_drewN ?_ _ | refine blk_drew ?_ | refine blk_alloc ?_ _)); refine blk_far ?_ NB277_286.out _; (with_reducible repeat (first | refine blk_drewN ?_ _ | refine blk_drew ?_ | refine blk_alloc ?_ _)); exact BK277.out⟩, ⟨by (with_reducible repeat (first | refine blk_drewN ?_ _ | refine blk_drew ?_ | refine blk_alloc ?_ _)); refine blk_put (cs := #[.string t278, .slice Ao55 t279.length co55, .slice none 0 0]) ?_ 2 _ rfl; (with_reducible repeat (first | refine blk_drewN ?_ _ | refine blk_drew ?_ | refine blk_alloc ?_ _)); refine blk_put (cs := #[.string t278, .slice none 0 0, .slice none 0 0]) ?_ 1 _ rfl; (with_reducible repeat (first | refine blk_drewN ?_ _ | refine blk_drew ?_ | refine blk_alloc ?_ _)); refine blk_put (cs := #[.string (⟨#[]⟩ : ByteArray), .slice none 0 0, .slice none 0 0]) ?_ 0 _ rfl; (with_reducible repeat (first | refine blk_drewN ?_ _ | refine blk_drew ?_ | refine blk_alloc ?_ _)); exact BK286.out⟩, ⟨by repeat (first | (with_reducible first | exact HB.out | apply below_alloc | apply pw_below_drewN | apply below_drew1 | refine below_set ?_ GE277.out | refine below_set ?_ GE286.out) | exact HB.out)⟩⟩
          ·rw [if_neg c58] at H
           have c58b0 : (t269.toList == t278.toList) = false := beq_eq_false_iff_ne.mpr c58
           have c58b1 : (t269.toList != t278.toList) = true := bne_iff_ne.mpr c58
           have H' := ak H
           clear H
           have hnb67 := NB277_286.out
           have hnc67 := NB286_277.out
           have hcz68_0 : w52.cell? ⟨gb277, 0, none⟩ = some (.string t269) := (blk_cell BK277.out 0).trans rfl
           have hcz68_1 : w52.cell? ⟨gb277, 1, none⟩ = some (.slice Ao49 t270.length co49) := (blk_cell BK277.out 1).trans rfl
           have hcz68_2 : w52.cell? ⟨gb277, 2, none⟩ = some (.slice Ao50 t273.length co50) := (blk_cell BK277.out 2).trans rfl
           have hfz68_0 := blk_frozen BK277.out 0
           have hfz68_1 := blk_frozen BK277.out 1
           have hfz68_2 := blk_frozen BK277.out 2
           have hcz69_0 : w52.cell? ⟨gb286, 0, none⟩ = some (.string (⟨#[]⟩ : ByteArray)) := (blk_cell BK286.out 0).trans rfl
           have hcz69_1 : w52.cell? ⟨gb286, 1, none⟩ = some (.slice none 0 0) := (blk_cell BK286.out 1).trans rfl
           have hcz69_2 : w52.cell? ⟨gb286, 2, none⟩ = some (.slice none 0 0) := (blk_cell BK286.out 2).trans rfl
           have hfz69_0 := blk_frozen BK286.out 0
           have hfz69_1 := blk_frozen BK286.out 1
           have hfz69_2 := blk_frozen BK286.out 2
           as_aux_lemma =>
            go_wp2
            repeat (go_quiet (fail); try go_wp2)
            go_meet
            case rel => exact ⟨_, (true), (by first | rfl | (simp; done) | (simp [*]; done)), H', ⟨by have := HJ3.out; have := HK2.out; first | omega | exact Nat.le_refl _⟩, ⟨by (with_reducible repeat (first | apply Kd.R_alloc | apply Kd.R_drewN | apply Kd.R_drew)); exact Kd.R_mono (Kd.R_far (p := ⟨gb286, 2, none⟩) (Kd.R_far (p := ⟨gb286, 1, none⟩) (Kd.R_far (p := ⟨gb286, 0, none⟩) (Kd.R_types HO272.out BK286.out (by decide)) (fun _ hk => hk.2) (.string t278)) (fun _ hk => hk.2) (.slice Ao55 t279.length co55)) (fun _ hk => hk.2) (.slice Ao56 t282.length co56)) (fun _ hk => hk.1.2)⟩, ⟨by (with_reducible repeat (first | apply Kd.R_alloc | apply Kd.R_drewN | apply Kd.R_drew)); exact Kd.R_mono (Kd.R_far (p := ⟨gb286, 2, none⟩) (Kd.R_far (p := ⟨gb286, 1, none⟩) (Kd.R_far (p := ⟨gb286, 0, none⟩) (Kd.R_types HO275.out BK286.out (by decide)) (fun _ hk => hk.2) (.string t278)) (fun _ hk => hk.2) (.slice Ao55 t279.length co55)) (fun _ hk => hk.2) (.slice Ao56 t282.length co56)) (fun _ hk => hk.1.2)⟩, ⟨by (with_reducible repeat (first | apply Kd.R_alloc | apply Kd.R_drewN | apply Kd.R_drew)); exact Kd.R_mono (Kd.R_far (p := ⟨gb286, 2, none⟩) (Kd.R_far (p := ⟨gb286, 1, none⟩) (Kd.R_far (p := ⟨gb286, 0, none⟩) (Kd.R_types HO281.out BK286.out (by decide)) (fun _ hk => hk.2) (.string t278)) (fun _ hk => hk.2) (.slice Ao55 t279.length co55)) (fun _ hk => hk.2) (.slice Ao56 t282.length co56)) (fun _ hk => hk.1.2)⟩, ⟨by (with_reducible repeat (first | apply Kd.R_alloc | apply Kd.R_drewN | apply Kd.R_drew)); exact Kd.R_mono (Kd.R_far (p := ⟨gb286, 2, none⟩) (Kd.R_far (p := ⟨gb286, 1, none⟩) (Kd.R_far (p := ⟨gb286, 0, none⟩) (Kd.R_types HO284.out BK286.out (by decide)) (fun _ hk => hk.2) (.string t278)) (fun _ hk => hk.2) (.slice Ao55 t279.length co55)) (fun _ hk => hk.2) (.slice Ao56 t282.length co56)) (fun _ hk => hk.1.2)⟩, ⟨by (with_reducible repeat (first | refine blk_drewN ?_ _ | refine blk_drew ?_ | refine blk_alloc ?_ _)); refine blk_far ?_ NB277_286.out _; (with_reducible repeat (first | refine blk_drewN ?_ _ | refine blk_drew ?_ | refine blk_alloc ?_ _)); refine blk_far ?_ NB277_286.out _; (with_reducible repeat (first | refine blk_drewN ?_ _ | refine blk_drew ?_ | refine blk_alloc ?_ _)); refine blk_far ?_ NB277_286.out _; (with_reducible repeat (first | refine blk_drewN ?_ _ | refine blk_drew ?_ | refine blk_alloc ?_ _)); exact BK277.out⟩, ⟨by (with_reducible repeat (first | refine blk_drewN ?_ _ | refine blk_drew ?_ | refine blk_alloc ?_ _)); refine blk_put (cs := #[.string t278, .slice Ao55 t279.length co55, .slice none 0 0]) ?_ 2 _ rfl; (with_reducible repeat (first | refine blk_drewN ?_ _ | refine blk_drew ?_ | refine blk_alloc ?_ _)); refine blk_put (cs := #[.string t278, .slice none 0 0, .slice none 0 0]) ?_ 1 _ rfl; (with_reducible repeat (first | refine blk_drewN ?_ _ | refine blk_drew ?_ | refine blk_alloc ?_ _)); refine blk_put (cs := #[.string (⟨#[]⟩ : ByteArray), .slice none 0 0, .slice none 0 0]) ?_ 0 _ rfl; (with_reducible repeat (first | refine blk_drewN ?_ _ | refine blk_drew ?_ | refine blk_alloc ?_ _)); exact BK286.out⟩, ⟨by repeat (first | (with_reducible first | exact HB.out | apply below_alloc | apply pw_below_drewN | apply below_drew1 | refine below_set ?_ GE277.out | refine below_set ?_ GE286.out) | exact HB.out)⟩⟩
         ·rw [if_neg c57] at H
          have c57b0 : (t276 == t285) = false := beq_eq_false_iff_ne.mpr c57
          have c57b1 : (t276 != t285) = true := bne_iff_ne.mpr c57
          (first | rw [c57b0] | (simp only [i64_w, i32_w]; rw [c57b0]) | skip)
          have H' := ak H
          clear H
          as_aux_lemma =>
           go_wp2
           repeat (go_quiet (fail); try go_wp2)
           go_meet
           case rel => exact ⟨_, (true), (by first | rfl | (simp; done) | (simp [*]; done)), H', ⟨by have := HJ3.out; have := HK2.out; first | omega | exact Nat.le_refl _⟩, ⟨by (with_reducible repeat (first | apply Kd.R_alloc | apply Kd.R_drewN | apply Kd.R_drew)); exact Kd.R_mono (Kd.R_far (p := ⟨gb286, 2, none⟩) (Kd.R_far (p := ⟨gb286, 1, none⟩) (Kd.R_far (p := ⟨gb286, 0, none⟩) (Kd.R_types HO272.out BK286.out (by decide)) (fun _ hk => hk.2) (.string t278)) (fun _ hk => hk.2) (.slice Ao55 t279.length co55)) (fun _ hk => hk.2) (.slice Ao56 t282.length co56)) (fun _ hk => hk.1.2)⟩, ⟨by (with_reducible repeat (first | apply Kd.R_alloc | apply Kd.R_drewN | apply Kd.R_drew)); exact Kd.R_mono (Kd.R_far (p := ⟨gb286, 2, none⟩) (Kd.R_far (p := ⟨gb286, 1, none⟩) (Kd.R_far (p := ⟨gb286, 0, none⟩) (Kd.R_types HO275.out BK286.out (by decide)) (fun _ hk => hk.2) (.string t278)) (fun _ hk => hk.2) (.slice Ao55 t279.length co55)) (fun _ hk => hk.2) (.slice Ao56 t282.length co56)) (fun _ hk => hk.1.2)⟩, ⟨by (with_reducible repeat (first | apply Kd.R_alloc | apply Kd.R_drewN | apply Kd.R_drew)); exact Kd.R_mono (Kd.R_far (p := ⟨gb286, 2, none⟩) (Kd.R_far (p := ⟨gb286, 1, none⟩) (Kd.R_far (p := ⟨gb286, 0, none⟩) (Kd.R_types HO281.out BK286.out (by decide)) (fun _ hk => hk.2) (.string t278)) (fun _ hk => hk.2) (.slice Ao55 t279.length co55)) (fun _ hk => hk.2) (.slice Ao56 t282.length co56)) (fun _ hk => hk.1.2)⟩, ⟨by (with_reducible repeat (first | apply Kd.R_alloc | apply Kd.R_drewN | apply Kd.R_drew)); exact Kd.R_mono (Kd.R_far (p := ⟨gb286, 2, none⟩) (Kd.R_far (p := ⟨gb286, 1, none⟩) (Kd.R_far (p := ⟨gb286, 0, none⟩) (Kd.R_types HO284.out BK286.out (by decide)) (fun _ hk => hk.2) (.string t278)) (fun _ hk => hk.2) (.slice Ao55 t279.length co55)) (fun _ hk => hk.2) (.slice Ao56 t282.length co56)) (fun _ hk => hk.1.2)⟩, ⟨by (with_reducible repeat (first | refine blk_drewN ?_ _ | refine blk_drew ?_ | refine blk_alloc ?_ _)); refine blk_far ?_ NB277_286.out _; (with_reducible repeat (first | refine blk_drewN ?_ _ | refine blk_drew ?_ | refine blk_alloc ?_ _)); refine blk_far ?_ NB277_286.out _; (with_reducible repeat (first | refine blk_drewN ?_ _ | refine blk_drew ?_ | refine blk_alloc ?_ _)); refine blk_far ?_ NB277_286.out _; (with_reducible repeat (first | refine blk_drewN ?_ _ | refine blk_drew ?_ | refine blk_alloc ?_ _)); exact BK277.out⟩, ⟨by (with_reducible repeat (first | refine blk_drewN ?_ _ | refine blk_drew ?_ | refine blk_alloc ?_ _)); refine blk_put (cs := #[.string t278, .slice Ao55 t279.length co55, .slice none 0 0]) ?_ 2 _ rfl; (with_reducible repeat (first | refine blk_drewN ?_ _ | refine blk_drew ?_ | refine blk_alloc ?_ _)); refine blk_put (cs := #[.string t278, .slice none 0 0, .slice none 0 0]) ?_ 1 _ rfl; (with_reducible repeat (first | refine blk_drewN ?_ _ | refine blk_drew ?_ | refine blk_alloc ?_ _)); refine blk_put (cs := #[.string (⟨#[]⟩ : ByteArray), .slice none 0 0, .slice none 0 0]) ?_ 0 _ rfl; (with_reducible repeat (first | refine blk_drewN ?_ _ | refine blk_drew ?_ | refine blk_alloc ?_ _)); exact BK286.out⟩, ⟨by repeat (first | (with_reducible first | exact HB.out | apply below_alloc | apply pw_below_drewN | apply below_drew1 | refine below_set ?_ GE277.out | refine below_set ?_ GE286.out) | exact HB.out)⟩⟩
        case rest =>
         clear HC44
         try clear c1
         try clear c2
         try clear p2
         try clear q2
         try clear hx2
         try clear c3
         try clear p3
         try clear q3
         try clear hx3
         try clear hf3
         try clear c5
         try clear c6
         try clear p6
         try clear c14
         try clear c14b0
         try clear c16
         try clear c17
         try clear c25
         try clear p25
         try clear q25
         try clear hx25
         try clear c26
         try clear p26
         try clear q26
         try clear hx26
         try clear c27
         try clear c28
         try clear c29
         try clear c29b0
         try clear c30
         try clear c34
         try clear c34b0
         try clear c34b1
         try clear c35
         try clear p35
         try clear q35
         try clear hx35
         try clear hf35
         try clear c36
         try clear q36
         try clear c38
         try clear c38b0
         try clear c38b1
         try clear c53
         try clear c57
         try clear c57b0
         try clear c57b1
         try clear c58
         try clear c58b0
         try clear c58b1
         try clear c60
         try clear c61
         try clear c64
         try clear p64
         try clear c67
         try clear hcz48_0
         try clear hcz48_1
         try clear hcz48_2
         try clear hcz54_0
         try clear hcz54_1
         try clear hcz54_2
         try clear hcz62_0
         try clear hcz62_1
         try clear hcz62_2
         try clear hcz63_0
         try clear hcz63_1
         try clear hcz63_2
         try clear hcz65_0
         try clear hcz65_1
         try clear hcz65_2
         try clear hcz66_0
         try clear hcz66_1
         try clear hcz66_2
         try clear hcz68_0
         try clear hcz68_1
         try clear hcz68_2
         try clear hcz69_0
         try clear hcz69_1
         try clear hcz69_2
         try clear hfz48_0
         try clear hfz48_1
         try clear hfz48_2
         try clear hfz54_0
         try clear hfz54_1
         try clear hfz54_2
         try clear hfz62_0
         try clear hfz62_1
         try clear hfz62_2
         try clear hfz63_0
         try clear hfz63_1
         try clear hfz63_2
         try clear hfz65_0
         try clear hfz65_1
         try clear hfz65_2
         try clear hfz66_0
         try clear hfz66_1
         try clear hfz66_2
         try clear hfz68_0
         try clear hfz68_1
         try clear hfz68_2
         try clear hfz69_0
         try clear hfz69_1
         try clear hfz69_2
         try clear hx258_0
         try clear hx258_1
         try clear hx258_2
         try clear hx258_3
         try clear hx259_0
         try clear hx259_1
         try clear hx259_2
         try clear hx259_3
         try clear hx260_0
         try clear hx260_1
         try clear hx260_2
         try clear hx260_3
         try clear hx262_0
         try clear hx262_1
         try clear hx262_2
         try clear hx262_3
         try clear hx263_0
         try clear hx263_1
         try clear hx263_2
         try clear hx263_3
         try clear hx264_0
         try clear hx264_1
         try clear hx264_2
         try clear hx264_3
         try clear hx35_0
         try clear hx35_1
         try clear hx35_2
         try clear hx35_3
         try clear p258
         try clear p259
         try clear p260
         try clear p262
         try clear p263
         try clear p264
         try clear p35
         try clear q258
         try clear q259
         try clear q260
         try clear q262
         try clear q263
         try clear q264
         try clear q35
         obtain ⟨kq, x165_43, rfl, HA, HJ43, HO_278001, HO_278002, HO_287001, HO_287002, BK277, BK286, HB⟩ := hcut
         cases kq with
         | zero => exact absurd HA.out (by simp [LNa.j4])
         | succ kj43 =>
          have H := HA.out
          clear HA
          simp only [LNa.j4] at H
          by_cases c70 : x165_43 = true
          ·subst c70
           have H1 : (some false) = some r := by rw [if_pos rfl] at H; exact H
           clear H
           have H := H1
           clear H1
           obtain rfl := Option.some.inj H
           as_aux_lemma =>
            go_wp2
            repeat (go_quiet (fail); try go_wp2)
            go_ret
            exact ⟨by first | rfl | (simp [errW_none, errW_some] <;> rfl) | (simp [*, errW_none, errW_some] <;> rfl), by repeat (first | (with_reducible first | exact HB.out | apply below_alloc | apply pw_below_drewN | apply below_drew1 | refine below_set ?_ GE277.out | refine below_set ?_ GE286.out) | exact HB.out)⟩
          ·replace c70 := Bool.eq_false_iff.mpr c70
           subst c70
           have H1 : (LNa.l3 kj43 a1 0 t269 t270 t273 t278 t279 t282) = some r := by rw [if_neg (show ¬ (false = true) by decide)] at H; exact H
           clear H
           have H := H1
           clear H1
           have H' := ak H
           clear H
           go_wp2
           repeat (go_quiet (fail); try go_wp2)
           go_loopg [15] kj43 (fun kq v15 w' => ∃ (x15_4 : Int), v15 = .int .i64 x15_4 ∧ Aside0 (LNa.l3 kq a1 x15_4 t269 t270 t273 t278 t279 t282 = some r) ∧ Aside0 (kq ≤ kj43) ∧ Aside0 (Kd.R (Kd.int .i64) 2 w' w.heap.size (fun k_ => some k_ ≠ ((.slice Ao55 t279.length co55) : Value).ownBlock) (.slice Ao49 t270.length co49) t270) ∧ Aside0 (Kd.R k36 36 w' w.heap.size (fun k_ => some k_ ≠ ((.slice Ao56 t282.length co56) : Value).ownBlock) (.slice Ao50 t273.length co50) t273) ∧ Aside0 (Kd.R (Kd.int .i64) 2 w' w.heap.size (fun k_ => some k_ ≠ ((.slice Ao49 t270.length co49) : Value).ownBlock) (.slice Ao55 t279.length co55) t279) ∧ Aside0 (Kd.R k36 36 w' w.heap.size (fun k_ => some k_ ≠ ((.slice Ao50 t273.length co50) : Value).ownBlock) (.slice Ao56 t282.length co56) t282) ∧ Aside0 (w'.heap[gb277]? = some (.cells #[.string t269, (.slice Ao49 t270.length co49), (.slice Ao50 t273.length co50)] 29 (0, 0))) ∧ Aside0 (w'.heap[gb286]? = some (.cells #[.string t278, (.slice Ao55 t279.length co55), (.slice Ao56 t282.length co56)] 29 (0, 0))) ∧ Aside0 (Below w.heap.size w w'))
           case atStart => exact ⟨(0), (by first | rfl | (simp; done) | (simp [*]; done)), H', ⟨Nat.le_refl _⟩, ⟨by (with_reducible repeat (first | apply Kd.R_alloc | apply Kd.R_drewN | apply Kd.R_drew)); exact HO_278001.out⟩, ⟨by (with_reducible repeat (first | apply Kd.R_alloc | apply Kd.R_drewN | apply Kd.R_drew)); exact HO_278002.out⟩, ⟨by (with_reducible repeat (first | apply Kd.R_alloc | apply Kd.R_drewN | apply Kd.R_drew)); exact HO_287001.out⟩, ⟨by (with_reducible repeat (first | apply Kd.R_alloc | apply Kd.R_drewN | apply Kd.R_drew)); exact HO_287002.out⟩, ⟨by (with_reducible repeat (first | refine blk_drewN ?_ _ | refine blk_drew ?_ | refine blk_alloc ?_ _)); exact BK277.out⟩, ⟨by (with_reducible repeat (first | refine blk_drewN ?_ _ | refine blk_drew ?_ | refine blk_alloc ?_ _)); exact BK286.out⟩, ⟨by repeat (first | (with_reducible first | exact HB.out | apply below_alloc | apply pw_below_drewN | apply below_drew1 | refine below_set ?_ GE277.out | refine below_set ?_ GE286.out) | exact HB.out)⟩⟩
           case round =>
            clear H'
            try clear c1
            try clear c2
            try clear p2
            try clear q2
            try clear hx2
            try clear c3
            try clear p3
            try clear q3
            try clear hx3
            try clear hf3
            try clear c5
            try clear c6
            try clear p6
            try clear c7
            try clear c14
            try clear c14b0
            try clear c16
            try clear c17
            try clear c25
            try clear p25
            try clear q25
            try clear hx25
            try clear c26
            try clear p26
            try clear q26
            try clear hx26
            try clear c27
            try clear c28
            try clear c29
            try clear c29b0
            try clear c30
            try clear c34
            try clear c34b0
            try clear c34b1
            try clear c35
            try clear p35
            try clear q35
            try clear hx35
            try clear hf35
            try clear c36
            try clear q36
            try clear c38
            try clear c38b0
            try clear c38b1
            try clear c53
            try clear c57
            try clear c57b0
            try clear c57b1
            try clear c58
            try clear c58b0
            try clear c58b1
            try clear c60
            try clear c61
            try clear c64
            try clear p64
            try clear c67
            try clear c70
            try clear hcz48_0
            try clear hcz48_1
            try clear hcz48_2
            try clear hcz54_0
            try clear hcz54_1
            try clear hcz54_2
            try clear hcz62_0
            try clear hcz62_1
            try clear hcz62_2
            try clear hcz63_0
            try clear hcz63_1
            try clear hcz63_2
            try clear hcz65_0
            try clear hcz65_1
            try clear hcz65_2
            try clear hcz66_0
            try clear hcz66_1
            try clear hcz66_2
            try clear hcz68_0
            try clear hcz68_1
            try clear hcz68_2
            try clear hcz69_0
            try clear hcz69_1
            try clear hcz69_2
            try clear hfz48_0
            try clear hfz48_1
            try clear hfz48_2
            try clear hfz54_0
            try clear hfz54_1
            try clear hfz54_2
            try clear hfz62_0
            try clear hfz62_1
            try clear hfz62_2
            try clear hfz63_0
            try clear hfz63_1
            try clear hfz63_2
            try clear hfz65_0
            try clear hfz65_1
            try clear hfz65_2
            try clear hfz66_0
            try clear hfz66_1
            try clear hfz66_2
            try clear hfz68_0
            try clear hfz68_1
            try clear hfz68_2
            try clear hfz69_0
            try clear hfz69_1
            try clear hfz69_2
            try clear hx258_0
            try clear hx258_1
            try clear hx258_2
            try clear hx258_3
            try clear hx259_0
            try clear hx259_1
            try clear hx259_2
            try clear hx259_3
            try clear hx260_0
            try clear hx260_1
            try clear hx260_2
            try clear hx260_3
            try clear hx262_0
            try clear hx262_1
            try clear hx262_2
            try clear hx262_3
            try clear hx263_0
            try clear hx263_1
            try clear hx263_2
            try clear hx263_3
            try clear hx264_0
            try clear hx264_1
            try clear hx264_2
            try clear hx264_3
            try clear hx35_0
            try clear hx35_1
            try clear hx35_2
            try clear hx35_3
            try clear p2
            try clear p25
            try clear p258
            try clear p259
            try clear p26
            try clear p260
            try clear p262
            try clear p263
            try clear p264
            try clear p3
            try clear p35
            try clear p6
            try clear p64
            try clear q2
            try clear q25
            try clear q258
            try clear q259
            try clear q26
            try clear q260
            try clear q262
            try clear q263
            try clear q264
            try clear q3
            try clear q35
            try clear q36
            obtain ⟨x15_4, rfl, HA, HK4, HO_278001, HO_278002, HO_287001, HO_287002, BK277, BK286, HB⟩ := hrel
            cases gk with
            | zero => exact absurd HA.out (by simp [LNa.l3])
            | succ k4 =>
             have H := HA.out
             clear HA
             simp only [LNa.l3] at H
             by_cases c71 : x15_4 < (t273.length : Int)
             ·rw [if_pos c71] at H
              have c71b0 : decide (x15_4 < (t273.length : Int)) = true := decide_eq_true c71
              clear c71
              by_cases c72 : 0 ≤ x15_4
              ·rw [if_pos c72] at H
               have c72b0 : decide (0 ≤ x15_4) = true := decide_eq_true c72
               clear c72
               by_cases c73 : x15_4 < (t282.length : Int)
               ·rw [if_pos c73] at H
                have c73b0 : decide (x15_4 < (t282.length : Int)) = true := decide_eq_true c73
                clear c73
                by_cases c74 : ((rd_T36 t273 x15_4).f2) = ((rd_T36 t282 x15_4).f2)
                ·rw [if_pos c74] at H
                 have c74b0 : (((rd_T36 t273 x15_4).f2) == ((rd_T36 t282 x15_4).f2)) = true := beq_iff_eq.mpr c74
                 have c74b1 : (((rd_T36 t273 x15_4).f2) != ((rd_T36 t282 x15_4).f2)) = false := bne_eq_false_iff_eq.mpr c74
                 clear c74
                 by_cases c75 : ((rd_T36 t273 x15_4).f1) = ((rd_T36 t282 x15_4).f1)
                 ·rw [if_pos c75] at H
                  have c75b0 : (((rd_T36 t273 x15_4).f1) == ((rd_T36 t282 x15_4).f1)) = true := beq_iff_eq.mpr c75
                  have c75b1 : (((rd_T36 t273 x15_4).f1) != ((rd_T36 t282 x15_4).f1)) = false := bne_eq_false_iff_eq.mpr c75
                  clear c75
                  by_cases c76 : ((rd_T36 t273 x15_4).f0).toList = ((rd_T36 t282 x15_4).f0).toList
                  ·rw [if_pos c76] at H
                   have c76b0 : (((rd_T36 t273 x15_4).f0).toList == ((rd_T36 t282 x15_4).f0).toList) = true := beq_iff_eq.mpr c76
                   have c76b1 : (((rd_T36 t273 x15_4).f0).toList != ((rd_T36 t282 x15_4).f0).toList) = false := bne_eq_false_iff_eq.mpr c76
                   clear c76
                   have H' := ak H
                   clear H
                   have hnb77 := NB277_286.out
                   have hnc77 := NB286_277.out
                   have hcz78_0 : wr.cell? ⟨gb277, 0, none⟩ = some (.string t269) := (blk_cell BK277.out 0).trans rfl
                   have hcz78_1 : wr.cell? ⟨gb277, 1, none⟩ = some (.slice Ao49 t270.length co49) := (blk_cell BK277.out 1).trans rfl
                   have hcz78_2 : wr.cell? ⟨gb277, 2, none⟩ = some (.slice Ao50 t273.length co50) := (blk_cell BK277.out 2).trans rfl
                   have hfz78_0 := blk_frozen BK277.out 0
                   have hfz78_1 := blk_frozen BK277.out 1
                   have hfz78_2 := blk_frozen BK277.out 2
                   have p288 : 0 ≤ (x15_4 : Int) := of_decide_eq_true (by first | (with_reducible assumption) | assumption)
                   have q288 : x15_4 < (t273.length : Int) := of_decide_eq_true (by first | (with_reducible assumption) | assumption)
                   obtain ⟨ad288, e288, hx288_0, hx288_1, hx288_2⟩ := at_T36 (Kd.R_reads' HO_278002.out).2.2 x15_4 p288 q288
                   cases e288
                   replace p288 := eq_true p288
                   replace q288 := eq_true q288
                   have hcz79_0 : wr.cell? ⟨gb286, 0, none⟩ = some (.string t278) := (blk_cell BK286.out 0).trans rfl
                   have hcz79_1 : wr.cell? ⟨gb286, 1, none⟩ = some (.slice Ao55 t279.length co55) := (blk_cell BK286.out 1).trans rfl
                   have hcz79_2 : wr.cell? ⟨gb286, 2, none⟩ = some (.slice Ao56 t282.length co56) := (blk_cell BK286.out 2).trans rfl
                   have hfz79_0 := blk_frozen BK286.out 0
                   have hfz79_1 := blk_frozen BK286.out 1
                   have hfz79_2 := blk_frozen BK286.out 2
                   have p289 : 0 ≤ (x15_4 : Int) := of_decide_eq_true (by first | (with_reducible assumption) | assumption)
                   have q289 : x15_4 < (t282.length : Int) := of_decide_eq_true (by first | (with_reducible assumption) | assumption)
                   obtain ⟨ad289, e289, hx289_0, hx289_1, hx289_2⟩ := at_T36 (Kd.R_reads' HO_287002.out).2.2 x15_4 p289 q289
                   cases e289
                   replace p289 := eq_true p289
                   replace q289 := eq_true q289
                   have p290 : 0 ≤ (x15_4 : Int) := of_decide_eq_true (by first | (with_reducible assumption) | assumption)
                   have q290 : x15_4 < (t273.length : Int) := of_decide_eq_true (by first | (with_reducible assumption) | assumption)
                   obtain ⟨ad290, e290, hx290_0, hx290_1, hx290_2⟩ := at_T36 (Kd.R_reads' HO_278002.out).2.2 x15_4 p290 q290
                   obtain rfl : ad288 = ad290 := (by injection e290)
                   replace p290 := eq_true p290
                   replace q290 := eq_true q290
                   have p291 : 0 ≤ (x15_4 : Int) := of_decide_eq_true (by first | (with_reducible assumption) | assumption)
                   have q291 : x15_4 < (t282.length : Int) := of_decide_eq_true (by first | (with_reducible assumption) | assumption)
                   obtain ⟨ad291, e291, hx291_0, hx291_1, hx291_2⟩ := at_T36 (Kd.R_reads' HO_287002.out).2.2 x15_4 p291 q291
                   obtain rfl : ad289 = ad291 := (by injection e291)
                   replace p291 := eq_true p291
                   replace q291 := eq_true q291
                   have p292 : 0 ≤ (x15_4 : Int) := of_decide_eq_true (by first | (with_reducible assumption) | assumption)
                   have q292 : x15_4 < (t273.length : Int) := of_decide_eq_true (by first | (with_reducible assumption) | assumption)
                   obtain ⟨ad292, e292, hx292_0, hx292_1, hx292_2⟩ := at_T36 (Kd.R_reads' HO_278002.out).2.2 x15_4 p292 q292
                   obtain rfl : ad288 = ad292 := (by injection e292)
                   replace p292 := eq_true p292
                   replace q292 := eq_true q292
                   have p293 : 0 ≤ (x15_4 : Int) := of_decide_eq_true (by first | (with_reducible assumption) | assumption)
                   have q293 : x15_4 < (t282.length : Int) := of_decide_eq_true (by first | (with_reducible assumption) | assumption)
                   obtain ⟨ad293, e293, hx293_0, hx293_1, hx293_2⟩ := at_T36 (Kd.R_reads' HO_287002.out).2.2 x15_4 p293 q293
                   obtain rfl : ad289 = ad293 := (by injection e293)
                   replace p293 := eq_true p293
                   replace q293 := eq_true q293
                   as_aux_lemma =>
                    go_wp2
                    repeat (go_quiet (fail); try go_wp2)
                    go_roundg k4
                    case measure => have := HJ3.out; have := HK2.out; have := HJ43.out; have := HK4.out; omega
                    case rel => exact ⟨(wrap64 (x15_4 + 1)), (by first | rfl | (simp; done) | (simp [*]; done)), H', ⟨by have := HJ3.out; have := HK2.out; have := HJ43.out; have := HK4.out; omega⟩, ⟨by (with_reducible repeat (first | apply Kd.R_alloc | apply Kd.R_drewN | apply Kd.R_drew)); exact HO_278001.out⟩, ⟨by (with_reducible repeat (first | apply Kd.R_alloc | apply Kd.R_drewN | apply Kd.R_drew)); exact HO_278002.out⟩, ⟨by (with_reducible repeat (first | apply Kd.R_alloc | apply Kd.R_drewN | apply Kd.R_drew)); exact HO_287001.out⟩, ⟨by (with_reducible repeat (first | apply Kd.R_alloc | apply Kd.R_drewN | apply Kd.R_drew)); exact HO_287002.out⟩, ⟨by (with_reducible repeat (first | refine blk_drewN ?_ _ | refine blk_drew ?_ | refine blk_alloc ?_ _)); exact BK277.out⟩, ⟨by (with_reducible repeat (first | refine blk_drewN ?_ _ | refine blk_drew ?_ | refine blk_alloc ?_ _)); exact BK286.out⟩, ⟨by repeat (first | (with_reducible first | exact HB.out | apply below_alloc | apply pw_below_drewN | apply below_drew1 | refine below_set ?_ GE277.out | refine below_set ?_ GE286.out) | exact HB.out)⟩⟩
                  ·rw [if_neg c76] at H
                   have c76b0 : (((rd_T36 t273 x15_4).f0).toList == ((rd_T36 t282 x15_4).f0).toList) = false := beq_eq_false_iff_ne.mpr c76
                   have c76b1 : (((rd_T36 t273 x15_4).f0).toList != ((rd_T36 t282 x15_4).f0).toList) = true := bne_iff_ne.mpr c76
                   by_cases c80 : ((rd_T36 t273 x15_4).f0).toList = a1.toList
                   ·rw [if_pos c80] at H
                    have c80b0 : (((rd_T36 t273 x15_4).f0).toList == a1.toList) = true := beq_iff_eq.mpr c80
                    have c80b1 : (((rd_T36 t273 x15_4).f0).toList != a1.toList) = false := bne_eq_false_iff_eq.mpr c80
                    clear c80
                    have H' := ak H
                    clear H
                    have hnb81 := NB277_286.out
                    have hnc81 := NB286_277.out
                    have hcz82_0 : wr.cell? ⟨gb277, 0, none⟩ = some (.string t269) := (blk_cell BK277.out 0).trans rfl
                    have hcz82_1 : wr.cell? ⟨gb277, 1, none⟩ = some (.slice Ao49 t270.length co49) := (blk_cell BK277.out 1).trans rfl
                    have hcz82_2 : wr.cell? ⟨gb277, 2, none⟩ = some (.slice Ao50 t273.length co50) := (blk_cell BK277.out 2).trans rfl
                    have hfz82_0 := blk_frozen BK277.out 0
                    have hfz82_1 := blk_frozen BK277.out 1
                    have hfz82_2 := blk_frozen BK277.out 2
                    have p288 : 0 ≤ (x15_4 : Int) := of_decide_eq_true (by first | (with_reducible assumption) | assumption)
                    have q288 : x15_4 < (t273.length : Int) := of_decide_eq_true (by first | (with_reducible assumption) | assumption)
                    obtain ⟨ad288, e288, hx288_0, hx288_1, hx288_2⟩ := at_T36 (Kd.R_reads' HO_278002.out).2.2 x15_4 p288 q288
                    cases e288
                    replace p288 := eq_true p288
                    replace q288 := eq_true q288
                    have hcz83_0 : wr.cell? ⟨gb286, 0, none⟩ = some (.string t278) := (blk_cell BK286.out 0).trans rfl
                    have hcz83_1 : wr.cell? ⟨gb286, 1, none⟩ = some (.slice Ao55 t279.length co55) := (blk_cell BK286.out 1).trans rfl
                    have hcz83_2 : wr.cell? ⟨gb286, 2, none⟩ = some (.slice Ao56 t282.length co56) := (blk_cell BK286.out 2).trans rfl
                    have hfz83_0 := blk_frozen BK286.out 0
                    have hfz83_1 := blk_frozen BK286.out 1
                    have hfz83_2 := blk_frozen BK286.out 2
                    have p289 : 0 ≤ (x15_4 : Int) := of_decide_eq_true (by first | (with_reducible assumption) | assumption)
                    have q289 : x15_4 < (t282.length : Int) := of_decide_eq_true (by first | (with_reducible assumption) | assumption)
                    obtain ⟨ad289, e289, hx289_0, hx289_1, hx289_2⟩ := at_T36 (Kd.R_reads' HO_287002.out).2.2 x15_4 p289 q289
                    cases e289
                    replace p289 := eq_true p289
                    replace q289 := eq_true q289
                    have p290 : 0 ≤ (x15_4 : Int) := of_decide_eq_true (by first | (with_reducible assumption) | assumption)
                    have q290 : x15_4 < (t273.length : Int) := of_decide_eq_true (by first | (with_reducible assumption) | assumption)
                    obtain ⟨ad290, e290, hx290_0, hx290_1, hx290_2⟩ := at_T36 (Kd.R_reads' HO_278002.out).2.2 x15_4 p290 q290
                    obtain rfl : ad288 = ad290 := (by injection e290)
                    replace p290 := eq_true p290
                    replace q290 := eq_true q290
                    have p291 : 0 ≤ (x15_4 : Int) := of_decide_eq_true (by first | (with_reducible assumption) | assumption)
                    have q291 : x15_4 < (t282.length : Int) := of_decide_eq_true (by first | (with_reducible assumption) | assumption)
                    obtain ⟨ad291, e291, hx291_0, hx291_1, hx291_2⟩ := at_T36 (Kd.R_reads' HO_287002.out).2.2 x15_4 p291 q291
                    obtain rfl : ad289 = ad291 := (by injection e291)
                    replace p291 := eq_true p291
                    replace q291 := eq_true q291
                    have p292 : 0 ≤ (x15_4 : Int) := of_decide_eq_true (by first | (with_reducible assumption) | assumption)
                    have q292 : x15_4 < (t273.length : Int) := of_decide_eq_true (by first | (with_reducible assumption) | assumption)
                    obtain ⟨ad292, e292, hx292_0, hx292_1, hx292_2⟩ := at_T36 (Kd.R_reads' HO_278002.out).2.2 x15_4 p292 q292
                    obtain rfl : ad288 = ad292 := (by injection e292)
                    replace p292 := eq_true p292
                    replace q292 := eq_true q292
                    have p293 : 0 ≤ (x15_4 : Int) := of_decide_eq_true (by first | (with_reducible assumption) | assumption)
                    have q293 : x15_4 < (t282.length : Int) := of_decide_eq_true (by first | (with_reducible assumption) | assumption)
                    obtain ⟨ad293, e293, hx293_0, hx293_1, hx293_2⟩ := at_T36 (Kd.R_reads' HO_287002.out).2.2 x15_4 p293 q293
                    obtain rfl : ad289 = ad293 := (by injection e293)
                    replace p293 := eq_true p293
                    replace q293 := eq_true q293
                    have p294 : 0 ≤ (x15_4 : Int) := of_decide_eq_true (by first | (with_reducible assumption) | assumption)
                    have q294 : x15_4 < (t273.length : Int) := of_decide_eq_true (by first | (with_reducible assumption) | assumption)
                    obtain ⟨ad294, e294, hx294_0, hx294_1, hx294_2⟩ := at_T36 (Kd.R_reads' HO_278002.out).2.2 x15_4 p294 q294
                    obtain rfl : ad288 = ad294 := (by injection e294)
                    replace p294 := eq_true p294
                    replace q294 := eq_true q294
                    as_aux_lemma =>
                     go_wp2
                     repeat (go_quiet (fail); try go_wp2)
                     go_roundg k4
                     case measure => have := HJ3.out; have := HK2.out; have := HJ43.out; have := HK4.out; omega
                     case rel => exact ⟨(wrap64 (x15_4 + 1)), (by first | rfl | (simp; done) | (simp [*]; done)), H', ⟨by have := HJ3.out; have := HK2.out; have := HJ43.out; have := HK4.out; omega⟩, ⟨by (with_reducible repeat (first | apply Kd.R_alloc | apply Kd.R_drewN | apply Kd.R_drew)); exact HO_278001.out⟩, ⟨by (with_reducible repeat (first | apply Kd.R_alloc | apply Kd.R_drewN | apply Kd.R_drew)); exact HO_278002.out⟩, ⟨by (with_reducible repeat (first | apply Kd.R_alloc | apply Kd.R_drewN | apply Kd.R_drew)); exact HO_287001.out⟩, ⟨by (with_reducible repeat (first | apply Kd.R_alloc | apply Kd.R_drewN | apply Kd.R_drew)); exact HO_287002.out⟩, ⟨by (with_reducible repeat (first | refine blk_drewN ?_ _ | refine blk_drew ?_ | refine blk_alloc ?_ _)); exact BK277.out⟩, ⟨by (with_reducible repeat (first | refine blk_drewN ?_ _ | refine blk_drew ?_ | refine blk_alloc ?_ _)); exact BK286.out⟩, ⟨by repeat (first | (with_reducible first | exact HB.out | apply below_alloc | apply pw_below_drewN | apply below_drew1 | refine below_set ?_ GE277.out | refine below_set ?_ GE286.out) | exact HB.out)⟩⟩
                   ·rw [if_neg c80] at H
                    have c80b0 : (((rd_T36 t273 x15_4).f0).toList == a1.toList) = false := beq_eq_false_iff_ne.mpr c80
                    have c80b1 : (((rd_T36 t273 x15_4).f0).toList != a1.toList) = true := bne_iff_ne.mpr c80
                    obtain rfl := Option.some.inj H
                    have hnb84 := NB277_286.out
                    have hnc84 := NB286_277.out
                    have hcz85_0 : wr.cell? ⟨gb277, 0, none⟩ = some (.string t269) := (blk_cell BK277.out 0).trans rfl
                    have hcz85_1 : wr.cell? ⟨gb277, 1, none⟩ = some (.slice Ao49 t270.length co49) := (blk_cell BK277.out 1).trans rfl
                    have hcz85_2 : wr.cell? ⟨gb277, 2, none⟩ = some (.slice Ao50 t273.length co50) := (blk_cell BK277.out 2).trans rfl
                    have hfz85_0 := blk_frozen BK277.out 0
                    have hfz85_1 := blk_frozen BK277.out 1
                    have hfz85_2 := blk_frozen BK277.out 2
                    have p288 : 0 ≤ (x15_4 : Int) := of_decide_eq_true (by first | (with_reducible assumption) | assumption)
                    have q288 : x15_4 < (t273.length : Int) := of_decide_eq_true (by first | (with_reducible assumption) | assumption)
                    obtain ⟨ad288, e288, hx288_0, hx288_1, hx288_2⟩ := at_T36 (Kd.R_reads' HO_278002.out).2.2 x15_4 p288 q288
                    cases e288
                    replace p288 := eq_true p288
                    replace q288 := eq_true q288
                    have hcz86_0 : wr.cell? ⟨gb286, 0, none⟩ = some (.string t278) := (blk_cell BK286.out 0).trans rfl
                    have hcz86_1 : wr.cell? ⟨gb286, 1, none⟩ = some (.slice Ao55 t279.length co55) := (blk_cell BK286.out 1).trans rfl
                    have hcz86_2 : wr.cell? ⟨gb286, 2, none⟩ = some (.slice Ao56 t282.length co56) := (blk_cell BK286.out 2).trans rfl
                    have hfz86_0 := blk_frozen BK286.out 0
                    have hfz86_1 := blk_frozen BK286.out 1
                    have hfz86_2 := blk_frozen BK286.out 2
                    have p289 : 0 ≤ (x15_4 : Int) := of_decide_eq_true (by first | (with_reducible assumption) | assumption)
                    have q289 : x15_4 < (t282.length : Int) := of_decide_eq_true (by first | (with_reducible assumption) | assumption)
                    obtain ⟨ad289, e289, hx289_0, hx289_1, hx289_2⟩ := at_T36 (Kd.R_reads' HO_287002.out).2.2 x15_4 p289 q289
                    cases e289
                    replace p289 := eq_true p289
                    replace q289 := eq_true q289
                    have p290 : 0 ≤ (x15_4 : Int) := of_decide_eq_true (by first | (with_reducible assumption) | assumption)
                    have q290 : x15_4 < (t273.length : Int) := of_decide_eq_true (by first | (with_reducible assumption) | assumption)
                    obtain ⟨ad290, e290, hx290_0, hx290_1, hx290_2⟩ := at_T36 (Kd.R_reads' HO_278002.out).2.2 x15_4 p290 q290
                    obtain rfl : ad288 = ad290 := (by injection e290)
                    replace p290 := eq_true p290
                    replace q290 := eq_true q290
                    have p291 : 0 ≤ (x15_4 : Int) := of_decide_eq_true (by first | (with_reducible assumption) | assumption)
                    have q291 : x15_4 < (t282.length : Int) := of_decide_eq_true (by first | (with_reducible assumption) | assumption)
                    obtain ⟨ad291, e291, hx291_0, hx291_1, hx291_2⟩ := at_T36 (Kd.R_reads' HO_287002.out).2.2 x15_4 p291 q291
                    obtain rfl : ad289 = ad291 := (by injection e291)
                    replace p291 := eq_true p291
                    replace q291 := eq_true q291
                    have p292 : 0 ≤ (x15_4 : Int) := of_decide_eq_true (by first | (with_reducible assumption) | assumption)
                    have q292 : x15_4 < (t273.length : Int) := of_decide_eq_true (by first | (with_reducible assumption) | assumption)
                    obtain ⟨ad292, e292, hx292_0, hx292_1, hx292_2⟩ := at_T36 (Kd.R_reads' HO_278002.out).2.2 x15_4 p292 q292
                    obtain rfl : ad288 = ad292 := (by injection e292)
                    replace p292 := eq_true p292
                    replace q292 := eq_true q292
                    have p293 : 0 ≤ (x15_4 : Int) := of_decide_eq_true (by first | (with_reducible assumption) | assumption)
                    have q293 : x15_4 < (t282.length : Int) := of_decide_eq_true (by first | (with_reducible assumption) | assumption)
                    obtain ⟨ad293, e293, hx293_0, hx293_1, hx293_2⟩ := at_T36 (Kd.R_reads' HO_287002.out).2.2 x15_4 p293 q293
                    obtain rfl : ad289 = ad293 := (by injection e293)
                    replace p293 := eq_true p293
                    replace q293 := eq_true q293
                    have p294 : 0 ≤ (x15_4 : Int) := of_decide_eq_true (by first | (with_reducible assumption) | assumption)
                    have q294 : x15_4 < (t273.length : Int) := of_decide_eq_true (by first | (with_reducible assumption) | assumption)
                    obtain ⟨ad294, e294, hx294_0, hx294_1, hx294_2⟩ := at_T36 (Kd.R_reads' HO_278002.out).2.2 x15_4 p294 q294
                    obtain rfl : ad288 = ad294 := (by injection e294)
                    replace p294 := eq_true p294
                    replace q294 := eq_true q294
                    as_aux_lemma =>
                     go_wp2
                     repeat (go_quiet (fail); try go_wp2)
                     go_ret
                     exact ⟨by first | rfl | (simp [errW_none, errW_some] <;> rfl) | (simp [*, errW_none, errW_some] <;> rfl), by repeat (first | (with_reducible first | exact HB.out | apply below_alloc | apply pw_below_drewN | apply below_drew1 | refine below_set ?_ GE277.out | refine below_set ?_ GE286.out) | exact HB.out)⟩
                 ·rw [if_neg c75] at H
                  have c75b0 : (((rd_T36 t273 x15_4).f1) == ((rd_T36 t282 x15_4).f1)) = false := beq_eq_false_iff_ne.mpr c75
                  have c75b1 : (((rd_T36 t273 x15_4).f1) != ((rd_T36 t282 x15_4).f1)) = true := bne_iff_ne.mpr c75
                  obtain rfl := Option.some.inj H
                  have hnb87 := NB277_286.out
                  have hnc87 := NB286_277.out
                  have hcz88_0 : wr.cell? ⟨gb277, 0, none⟩ = some (.string t269) := (blk_cell BK277.out 0).trans rfl
                  have hcz88_1 : wr.cell? ⟨gb277, 1, none⟩ = some (.slice Ao49 t270.length co49) := (blk_cell BK277.out 1).trans rfl
                  have hcz88_2 : wr.cell? ⟨gb277, 2, none⟩ = some (.slice Ao50 t273.length co50) := (blk_cell BK277.out 2).trans rfl
                  have hfz88_0 := blk_frozen BK277.out 0
                  have hfz88_1 := blk_frozen BK277.out 1
                  have hfz88_2 := blk_frozen BK277.out 2
                  have p288 : 0 ≤ (x15_4 : Int) := of_decide_eq_true (by first | (with_reducible assumption) | assumption)
                  have q288 : x15_4 < (t273.length : Int) := of_decide_eq_true (by first | (with_reducible assumption) | assumption)
                  obtain ⟨ad288, e288, hx288_0, hx288_1, hx288_2⟩ := at_T36 (Kd.R_reads' HO_278002.out).2.2 x15_4 p288 q288
                  cases e288
                  replace p288 := eq_true p288
                  replace q288 := eq_true q288
                  have hcz89_0 : wr.cell? ⟨gb286, 0, none⟩ = some (.string t278) := (blk_cell BK286.out 0).trans rfl
                  have hcz89_1 : wr.cell? ⟨gb286, 1, none⟩ = some (.slice Ao55 t279.length co55) := (blk_cell BK286.out 1).trans rfl
                  have hcz89_2 : wr.cell? ⟨gb286, 2, none⟩ = some (.slice Ao56 t282.length co56) := (blk_cell BK286.out 2).trans rfl
                  have hfz89_0 := blk_frozen BK286.out 0
                  have hfz89_1 := blk_frozen BK286.out 1
                  have hfz89_2 := blk_frozen BK286.out 2
                  have p289 : 0 ≤ (x15_4 : Int) := of_decide_eq_true (by first | (with_reducible assumption) | assumption)
                  have q289 : x15_4 < (t282.length : Int) := of_decide_eq_true (by first | (with_reducible assumption) | assumption)
                  obtain ⟨ad289, e289, hx289_0, hx289_1, hx289_2⟩ := at_T36 (Kd.R_reads' HO_287002.out).2.2 x15_4 p289 q289
                  cases e289
                  replace p289 := eq_true p289
                  replace q289 := eq_true q289
                  have p290 : 0 ≤ (x15_4 : Int) := of_decide_eq_true (by first | (with_reducible assumption) | assumption)
                  have q290 : x15_4 < (t273.length : Int) := of_decide_eq_true (by first | (with_reducible assumption) | assumption)
                  obtain ⟨ad290, e290, hx290_0, hx290_1, hx290_2⟩ := at_T36 (Kd.R_reads' HO_278002.out).2.2 x15_4 p290 q290
                  obtain rfl : ad288 = ad290 := (by injection e290)
                  replace p290 := eq_true p290
                  replace q290 := eq_true q290
                  have p291 : 0 ≤ (x15_4 : Int) := of_decide_eq_true (by first | (with_reducible assumption) | assumption)
                  have q291 : x15_4 < (t282.length : Int) := of_decide_eq_true (by first | (with_reducible assumption) | assumption)
                  obtain ⟨ad291, e291, hx291_0, hx291_1, hx291_2⟩ := at_T36 (Kd.R_reads' HO_287002.out).2.2 x15_4 p291 q291
                  obtain rfl : ad289 = ad291 := (by injection e291)
                  replace p291 := eq_true p291
                  replace q291 := eq_true q291
                  as_aux_lemma =>
                   go_wp2
                   repeat (go_quiet (fail); try go_wp2)
                   go_ret
                   exact ⟨by first | rfl | (simp [errW_none, errW_some] <;> rfl) | (simp [*, errW_none, errW_some] <;> rfl), by repeat (first | (with_reducible first | exact HB.out | apply below_alloc | apply pw_below_drewN | apply below_drew1 | refine below_set ?_ GE277.out | refine below_set ?_ GE286.out) | exact HB.out)⟩
                ·rw [if_neg c74] at H
                 have c74b0 : (((rd_T36 t273 x15_4).f2) == ((rd_T36 t282 x15_4).f2)) = false := beq_eq_false_iff_ne.mpr c74
                 have c74b1 : (((rd_T36 t273 x15_4).f2) != ((rd_T36 t282 x15_4).f2)) = true := bne_iff_ne.mpr c74
                 obtain rfl := Option.some.inj H
                 have hnb90 := NB277_286.out
                 have hnc90 := NB286_277.out
                 have hcz91_0 : wr.cell? ⟨gb277, 0, none⟩ = some (.string t269) := (blk_cell BK277.out 0).trans rfl
                 have hcz91_1 : wr.cell? ⟨gb277, 1, none⟩ = some (.slice Ao49 t270.length co49) := (blk_cell BK277.out 1).trans rfl
                 have hcz91_2 : wr.cell? ⟨gb277, 2, none⟩ = some (.slice Ao50 t273.length co50) := (blk_cell BK277.out 2).trans rfl
                 have hfz91_0 := blk_frozen BK277.out 0
                 have hfz91_1 := blk_frozen BK277.out 1
                 have hfz91_2 := blk_frozen BK277.out 2
                 have p288 : 0 ≤ (x15_4 : Int) := of_decide_eq_true (by first | (with_reducible assumption) | assumption)
                 have q288 : x15_4 < (t273.length : Int) := of_decide_eq_true (by first | (with_reducible assumption) | assumption)
                 obtain ⟨ad288, e288, hx288_0, hx288_1, hx288_2⟩ := at_T36 (Kd.R_reads' HO_278002.out).2.2 x15_4 p288 q288
                 cases e288
                 replace p288 := eq_true p288
                 replace q288 := eq_true q288
                 have hcz92_0 : wr.cell? ⟨gb286, 0, none⟩ = some (.string t278) := (blk_cell BK286.out 0).trans rfl
                 have hcz92_1 : wr.cell? ⟨gb286, 1, none⟩ = some (.slice Ao55 t279.length co55) := (blk_cell BK286.out 1).trans rfl
                 have hcz92_2 : wr.cell? ⟨gb286, 2, none⟩ = some (.slice Ao56 t282.length co56) := (blk_cell BK286.out 2).trans rfl
                 have hfz92_0 := blk_frozen BK286.out 0
                 have hfz92_1 := blk_frozen BK286.out 1
                 have hfz92_2 := blk_frozen BK286.out 2
                 have p289 : 0 ≤ (x15_4 : Int) := of_decide_eq_true (by first | (with_reducible assumption) | assumption)
                 have q289 : x15_4 < (t282.length : Int) := of_decide_eq_true (by first | (with_reducible assumption) | assumption)
                 obtain ⟨ad289, e289, hx289_0, hx289_1, hx289_2⟩ := at_T36 (Kd.R_reads' HO_287002.out).2.2 x15_4 p289 q289
                 cases e289
                 replace p289 := eq_true p289
                 replace q289 := eq_true q289
                 as_aux_lemma =>
                  go_wp2
                  repeat (go_quiet (fail); try go_wp2)
                  go_ret
                  exact ⟨by first | rfl | (simp [errW_none, errW_some] <;> rfl) | (simp [*, errW_none, errW_some] <;> rfl), by repeat (first | (with_reducible first | exact HB.out | apply below_alloc | apply pw_below_drewN | apply below_drew1 | refine below_set ?_ GE277.out | refine below_set ?_ GE286.out) | exact HB.out)⟩
               ·rw [if_neg c73] at H
                exact absurd H (by simp)
              ·rw [if_neg c72] at H
               exact absurd H (by simp)
             ·rw [if_neg c71] at H
              have c71b0 : decide (x15_4 < (t273.length : Int)) = false := decide_eq_false c71
              clear c71
              replace H := Option.bind_eq_some_iff.mp H
              obtain ⟨t295, A930, H⟩ := H
              replace H : (some t295) = some r := H
              have A93 := ak A930
              clear A930
              obtain rfl := Option.some.inj H
              have hnb94 := NB277_286.out
              have hnc94 := NB286_277.out
              have hcz95_0 : wr.cell? ⟨gb277, 0, none⟩ = some (.string t269) := (blk_cell BK277.out 0).trans rfl
              have hcz95_1 : wr.cell? ⟨gb277, 1, none⟩ = some (.slice Ao49 t270.length co49) := (blk_cell BK277.out 1).trans rfl
              have hcz95_2 : wr.cell? ⟨gb277, 2, none⟩ = some (.slice Ao50 t273.length co50) := (blk_cell BK277.out 2).trans rfl
              have hfz95_0 := blk_frozen BK277.out 0
              have hfz95_1 := blk_frozen BK277.out 1
              have hfz95_2 := blk_frozen BK277.out 2
              as_aux_lemma =>
               go_wp2_with (first | (go_at_call 10; (with_reducible refine (cotterlaw07_live.calls  t295 _ A93.out).mono ?_); rintro e w96 ⟨rfl, hb⟩; have n0_ := ak (Kd.R_below (by (with_reducible repeat (first | apply Kd.R_alloc | apply Kd.R_drewN | apply Kd.R_drew)); exact HO_278001.out) hb); have n1_ := ak (Kd.R_below (by (with_reducible repeat (first | apply Kd.R_alloc | apply Kd.R_drewN | apply Kd.R_drew)); exact HO_278002.out) hb); have n2_ := ak (Kd.R_below (by (with_reducible repeat (first | apply Kd.R_alloc | apply Kd.R_drewN | apply Kd.R_drew)); exact HO_287001.out) hb); have n3_ := ak (Kd.R_below (by (with_reducible repeat (first | apply Kd.R_alloc | apply Kd.R_drewN | apply Kd.R_drew)); exact HO_287002.out) hb); have n4_ := ak (blk_below (g := gb277) (o := .cells #[.string t269, .slice Ao49 t270.length co49, .slice Ao50 t273.length co50] 29 (0, 0)) (by (with_reducible repeat (first | refine blk_drewN ?_ _ | refine blk_drew ?_ | refine blk_alloc ?_ _)); exact BK277.out) hb); have n5_ := ak (blk_below (g := gb286) (o := .cells #[.string t278, .slice Ao55 t279.length co55, .slice Ao56 t282.length co56] 29 (0, 0)) (by (with_reducible repeat (first | refine blk_drewN ?_ _ | refine blk_drew ?_ | refine blk_alloc ?_ _)); exact BK286.out) hb); have n6_ := ak (below_step (by repeat (first | (with_reducible first | exact HB.out | apply below_alloc | apply pw_below_drewN | apply below_drew1 | refine below_set ?_ GE277.out | refine below_set ?_ GE286.out) | exact HB.out)) hb); clear HO_278001; clear HO_278002; clear HO_287001; clear HO_287002; clear BK277; clear BK286; clear HB; have HO_278001 := n0_; have HO_278002 := n1_; have HO_287001 := n2_; have HO_287002 := n3_; have BK277 := n4_; have BK286 := n5_; have HB := n6_; clear n0_ n1_ n2_ n3_ n4_ n5_ n6_; (try clear hb); (try clear hb2); (try clear hk); (try clear hi)))
               repeat (go_quiet (first | (go_at_call 10; (with_reducible refine (cotterlaw07_live.calls  t295 _ A93.out).mono ?_); rintro e w96 ⟨rfl, hb⟩; have n0_ := ak (Kd.R_below (by (with_reducible repeat (first | apply Kd.R_alloc | apply Kd.R_drewN | apply Kd.R_drew)); exact HO_278001.out) hb); have n1_ := ak (Kd.R_below (by (with_reducible repeat (first | apply Kd.R_alloc | apply Kd.R_drewN | apply Kd.R_drew)); exact HO_278002.out) hb); have n2_ := ak (Kd.R_below (by (with_reducible repeat (first | apply Kd.R_alloc | apply Kd.R_drewN | apply Kd.R_drew)); exact HO_287001.out) hb); have n3_ := ak (Kd.R_below (by (with_reducible repeat (first | apply Kd.R_alloc | apply Kd.R_drewN | apply Kd.R_drew)); exact HO_287002.out) hb); have n4_ := ak (blk_below (g := gb277) (o := .cells #[.string t269, .slice Ao49 t270.length co49, .slice Ao50 t273.length co50] 29 (0, 0)) (by (with_reducible repeat (first | refine blk_drewN ?_ _ | refine blk_drew ?_ | refine blk_alloc ?_ _)); exact BK277.out) hb); have n5_ := ak (blk_below (g := gb286) (o := .cells #[.string t278, .slice Ao55 t279.length co55, .slice Ao56 t282.length co56] 29 (0, 0)) (by (with_reducible repeat (first | refine blk_drewN ?_ _ | refine blk_drew ?_ | refine blk_alloc ?_ _)); exact BK286.out) hb); have n6_ := ak (below_step (by repeat (first | (with_reducible first | exact HB.out | apply below_alloc | apply pw_below_drewN | apply below_drew1 | refine below_set ?_ GE277.out | refine below_set ?_ GE286.out) | exact HB.out)) hb); clear HO_278001; clear HO_278002; clear HO_287001; clear HO_287002; clear BK277; clear BK286; clear HB; have HO_278001 := n0_; have HO_278002 := n1_; have HO_287001 := n2_; have HO_287002 := n3_; have BK277 := n4_; have BK286 := n5_; have HB := n6_; clear n0_ n1_ n2_ n3_ n4_ n5_ n6_; (try clear hb); (try clear hb2); (try clear hk); (try clear hi))); try go_wp2_with (first | (go_at_call 10; (with_reducible refine (cotterlaw07_live.calls  t295 _ A93.out).mono ?_); rintro e w96 ⟨rfl, hb⟩; have n0_ := ak (Kd.R_below (by (with_reducible repeat (first | apply Kd.R_alloc | apply Kd.R_drewN | apply Kd.R_drew)); exact HO_278001.out) hb); have n1_ := ak (Kd.R_below (by (with_reducible repeat (first | apply Kd.R_alloc | apply Kd.R_drewN | apply Kd.R_drew)); exact HO_278002.out) hb); have n2_ := ak (Kd.R_below (by (with_reducible repeat (first | apply Kd.R_alloc | apply Kd.R_drewN | apply Kd.R_drew)); exact HO_287001.out) hb); have n3_ := ak (Kd.R_below (by (with_reducible repeat (first | apply Kd.R_alloc | apply Kd.R_drewN | apply Kd.R_drew)); exact HO_287002.out) hb); have n4_ := ak (blk_below (g := gb277) (o := .cells #[.string t269, .slice Ao49 t270.length co49, .slice Ao50 t273.length co50] 29 (0, 0)) (by (with_reducible repeat (first | refine blk_drewN ?_ _ | refine blk_drew ?_ | refine blk_alloc ?_ _)); exact BK277.out) hb); have n5_ := ak (blk_below (g := gb286) (o := .cells #[.string t278, .slice Ao55 t279.length co55, .slice Ao56 t282.length co56] 29 (0, 0)) (by (with_reducible repeat (first | refine blk_drewN ?_ _ | refine blk_drew ?_ | refine blk_alloc ?_ _)); exact BK286.out) hb); have n6_ := ak (below_step (by repeat (first | (with_reducible first | exact HB.out | apply below_alloc | apply pw_below_drewN | apply below_drew1 | refine below_set ?_ GE277.out | refine below_set ?_ GE286.out) | exact HB.out)) hb); clear HO_278001; clear HO_278002; clear HO_287001; clear HO_287002; clear BK277; clear BK286; clear HB; have HO_278001 := n0_; have HO_278002 := n1_; have HO_287001 := n2_; have HO_287002 := n3_; have BK277 := n4_; have BK286 := n5_; have HB := n6_; clear n0_ n1_ n2_ n3_ n4_ n5_ n6_; (try clear hb); (try clear hb2); (try clear hk); (try clear hi))))
               go_ret
               exact ⟨by first | rfl | (simp [errW_none, errW_some] <;> rfl) | (simp [*, errW_none, errW_some] <;> rfl), by repeat (first | (with_reducible first | exact HB.out | apply below_alloc | apply pw_below_drewN | apply below_drew1 | refine below_set ?_ GE277.out | refine below_set ?_ GE286.out) | exact HB.out)⟩

end Go.Proofs.Yteaealmnmmcbpaa.M

