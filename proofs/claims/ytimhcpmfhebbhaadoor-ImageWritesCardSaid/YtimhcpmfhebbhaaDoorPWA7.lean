/-
  Texts of the proofs of ImageWrites, cut to what the proofs reach and packed by a program of this session (wip/packs.py). Each part begins with what it says; conditions: those told there.
-/
import Derived.Maps.RangeWalk
import Derived.Test.YtimhcpmfhebbhaaDoorPWA6
namespace Go.Proofs.YtimhcpmfhebbhaaDoor.M
set_option maxRecDepth 100000
open Go.RowKit Go.Proofs.YtimhcpmfhebbhaaDoorW.PrintWords Go.Proofs.YtimhcpmfhebbhaaDoorW.PrintLast Go.Proofs.YtimhcpmfhebbhaaDoor.Num
set_option linter.unusedVariables false
set_option linter.unusedSimpArgs false
def insV (i : S79) : Value := .agg #[.int .i64 i.f0, .int .i64 i.f1, .int .i64 i.f2, .int .i64 i.f3]
def insT (i : S79) : SymD := .agg [.lit (.int .i64 i.f0), .lit (.int .i64 i.f1), .lit (.int .i64 i.f2), .lit (.int .i64 i.f3)]
def zIns : S79 := ⟨0, 0, 0, 0⟩
/-- How an instruction in the map reads. -/
def RIns : Value → Option (SymD × List MemPlace)
 | .agg cs => match cs.toList with
  | [.int .i64 a, .int .i64 b, .int .i64 c, .int .i64 d] => some (.agg [.lit (.int .i64 a), .lit (.int .i64 b), .lit (.int .i64 c), .lit (.int .i64 d)], [])
  | _ => none
 | _ => none
theorem RIns_ins (i : S79) : RIns (insV i) = some (insT i, []) := rfl
theorem RIns_shape {v : Value} {y : SymD × List MemPlace} (h : RIns v = some y) : ∃ i, v = insV i ∧ y = (insT i, []) := by
 unfold RIns at h
 split at h
 ·rename_i cs
  split at h
  ·rename_i a b c d hl
   obtain rfl : cs = #[.int .i64 a, .int .i64 b, .int .i64 c, .int .i64 d] := Array.toList_inj.mp hl
   exact ⟨⟨a, b, c, d⟩, rfl, (Option.some.inj h).symm⟩
  ·cases h
 ·cases h
theorem insT_inj {i j : S79} (h : insT i = insT j) : i = j := by
 simp only [insT, DataW.agg.injEq, List.cons.injEq, DataW.lit.injEq, Lit.int.injEq, true_and, and_true] at h
 obtain ⟨h1, h2, h3, h4⟩ := h
 cases i; cases j
 simp_all
def insKey (n : Int) : Lit := .int .i64 n
theorem insKey_lit (n : Int) : WideAt.IsKeyLit (insKey n) := by simp [insKey, WideAt.IsKeyLit]
theorem insKey_inj {a b : Int} (h : insKey a = insKey b) : a = b := by unfold insKey at h; injection h
theorem ins_law : Maps.Keyed Tryd.prog 3 := Maps.int_keyed Tryd.underlying3
theorem insKey_of {n : Int} (h0 : -9223372036854775808 ≤ n) (h1 : n ≤ 9223372036854775807) : keyOf Tryd.prog 3 (.int .i64 n) = some (insKey n) := by
 rw [keyOf_int Tryd.underlying3]
 simp [mapKey, Tryd.underlying3, insKey, Lit.wf, IntKind.min, IntKind.max, IntKind.signed, IntKind.bits]
 omega
/-- The map reads as these instructions at these places. -/
def FndI (D : SymD) (l : List (Int × S79)) : Prop := Maps.Tidy D ∧ ∀ n : Int, Maps.has D (insKey n) = (l.any fun p => decide (p.1 = n)) ∧ D.atKey (insKey n) (insT zIns) = insT (((l.find? fun p => decide (p.1 = n)).map (·.2)).getD zIns)
theorem fndI_nil : FndI (.map []) [] := ⟨Maps.tidy_empty, fun t => ⟨by simp [Maps.has], by rfl⟩⟩
theorem fndI_put {D : SymD} {l : List (Int × S79)} {n : Int} {i : S79} (h : FndI D l) (hn : (l.any fun p => decide (p.1 = n)) = false) : FndI (D.put (insKey n) (insT i)) (l ++ [(n, i)]) := by
 obtain ⟨ht, hf⟩ := h
 refine ⟨ht.put (insKey_lit _) _, fun t => ?_⟩
 obtain ⟨h1, h2⟩ := hf t
 rw [List.any_append, List.find?_append]
 by_cases e : t = n
 ·subst e
  rw [Maps.has_put_same ht.isMap (insKey_lit _), Maps.atKey_put_same ht.isMap (insKey_lit _)]
  have hnone : (l.find? fun p => decide (p.1 = t)) = none := by
   rw [List.find?_eq_none]
   intro x hx hx2
   exact (List.any_eq_false.1 hn x hx) hx2
  rw [hnone]
  simp
 ·have hne : insKey t ≠ insKey n := fun h => e (insKey_inj h)
  rw [Maps.has_put_other hne, Maps.atKey_put_other hne, h1, h2]
  have e2 : ¬ n = t := fun h => e h.symm
  simp [e2]
theorem ins_zero (w : World) : (zeroValue 79).run Tryd.prog w = .ok (insV zIns) w := by kernel_rfl
/-- A look-up, as the walk meets it. -/
theorem ins_look {w : World} {b n : Nat} {D : SymD} {l : List (Int × S79)} (h : w.ownsMap Tryd.prog 3 RIns b n D) (hf : FndI D l) (t : Int) (h0 : -9223372036854775808 ≤ t) (h1 : t ≤ 9223372036854775807) :
 (Instr.lookup 75 (.map (some b)) (.int .i64 t) true).run Tryd.prog w = .ok (.tuple #[insV (((l.find? fun p => decide (p.1 = t)).map (·.2)).getD zIns), .bool (l.any fun p => decide (p.1 = t))]) w := by
 obtain ⟨g1, g2⟩ := hf.2 t
 obtain ⟨v, ps, hrun, hv⟩ := h.look_ok ins_law Tryd.underlying75 (ins_zero w) (RIns_ins zIns) (key := .int .i64 t) (kl := insKey t) (insKey_of h0 h1)
 rw [g2] at hv
 obtain ⟨i, rfl, e⟩ := RIns_shape hv
 rw [hrun, g1]
 rw [insT_inj (congrArg Prod.fst e)]
end Go.Proofs.YtimhcpmfhebbhaaDoor.M
namespace Go.Proofs.YtimhcpmfhebbhaaDoor.M
open Go.RowKit Go.Proofs.YtimhcpmfhebbhaaDoorW.PrintWords Go.Proofs.YtimhcpmfhebbhaaDoorW.PrintLast
set_option linter.unusedVariables false
set_option linter.unusedSimpArgs false
def ins_shapeOf.f (a0 : Int) : Option (Int) := if a0 < 0 then (some 0) else (if a0 ≥ 34 then (some 0) else (some (rd shapeTab a0)))
set_option maxRecDepth 100000 in
theorem ins_shapeOf.calls (a0 : Int) (r : Int) (w : World) (hG : Glob w) (h : ins_shapeOf.f a0 = some r) :
 Calls Tryd.prog 76 #[.int .i64 a0] w fun e w' => e = .returned (.int .u8 r) ∧ Drawn0 w w' := by
 unfold ins_shapeOf.f at h
 by_cases c0 : a0 < 0
 ·rw [if_pos c0] at h
  obtain rfl := Option.some.inj h
  clear hG h
  go_enter Tryd.func76, Tryd.ntmps76
  go_wp2
  all_goals go_ret
  all_goals exact ⟨rfl, Drawn0.refl _⟩
 ·rw [if_neg c0] at h
  by_cases c1 : a0 ≥ 34
  ·rw [if_pos c1] at h
   obtain rfl := Option.some.inj h
   clear hG h
   go_enter Tryd.func76, Tryd.ntmps76
   go_wp2
   all_goals go_ret
   all_goals exact ⟨rfl, Drawn0.refl _⟩
  ·rw [if_neg c1] at h
   obtain rfl := Option.some.inj h
   obtain ⟨n, rfl⟩ := Int.eq_ofNat_of_zero_le (show 0 ≤ a0 by omega)
   have hn : n < 34 := by omega
   have hc := hG n hn
   have hc2 : w.cell? ⟨0, n, none⟩ = some (.int .u8 (rd shapeTab (n : Int))) := by rw [hc]; rfl
   clear hc hG h
   generalize rd shapeTab (n : Int) = r at *
   go_enter Tryd.func76, Tryd.ntmps76
   go_wp2
   all_goals go_ret
   all_goals exact ⟨rfl, Drawn0.refl _⟩
def ins_shape_registers.j0 : Nat → Int → Bool → Option (Int)
 | 0, _, _ => none
 | k + 1, x3, x4 => if x4 = true then (some 2) else (if x3 = 1 then (some 1) else (if x3 = 4 then (some 1) else (if x3 = 8 then (some 1) else (if x3 = 9 then (some 1) else (some 0)))))
def ins_shape_registers.f (k : Nat) (a0 : Int) : Option (Int) := if a0 = 2 then (ins_shape_registers.j0 k a0 (a0 == 2)) else (ins_shape_registers.j0 k a0 (a0 == 3))
set_option maxHeartbeats 8000000 in
set_option maxRecDepth 100000 in
theorem ins_shape_registers.calls (k : Nat) (a0 : Int) (r : Int) (w : World) (h : ins_shape_registers.f k a0 = some r) :
 Calls Tryd.prog 91 #[.int .u8 a0] w fun e w' => e = .returned (.int .i64 r) ∧ Drawn0 w w' := by
 have H : (if a0 = 2 then (ins_shape_registers.j0 k a0 (a0 == 2)) else (ins_shape_registers.j0 k a0 (a0 == 3))) = some r := h
 clear h
 have HC2 := z4 H
 clear H
 go_enter Tryd.func91, Tryd.ntmps91
 go_upto_if 4 with (fail)
 go_cut [4] (fun v4 wc => ∃ (kq : Nat) (x4_1 : Bool), v4 = .bool x4_1 ∧ Aside0 (ins_shape_registers.j0 kq a0 x4_1 = some r) ∧ Aside0 (kq ≤ k) ∧ Drawn0 w wc)
 case first =>
  have H := HC2.out
  clear HC2
  by_cases c3 : a0 = 2
  ·rw [if_pos c3] at H
   have c3b0 : (a0 == 2) = true := z5 c3
   have c3b1 : (a0 != 2) = false := z6 c3
   clear c3
   (first | rw [c3b0] | (simp only [i64_w, i32_w]; rw [c3b0]) | skip)
   have H' := z4 H
   clear H
   go_wp2
   go_meet
   case rel => exact ⟨_, ((a0 == 2)), (by first | rfl | (simp; done) | (simp [*]; done)), H', ⟨by first | omega | exact Nat.le_refl _⟩, by repeat (first | exact Drawn0.refl _ | apply Drawn0.step)⟩
  ·rw [if_neg c3] at H
   have c3b0 : (a0 == 2) = false := z7 c3
   have c3b1 : (a0 != 2) = true := bne_iff_ne.mpr c3
   (first | rw [c3b0] | (simp only [i64_w, i32_w]; rw [c3b0]) | skip)
   have H' := z4 H
   clear H
   go_wp2
   go_meet
   case rel => exact ⟨_, ((a0 == 3)), (by first | rfl | (simp; done) | (simp [*]; done)), H', ⟨by first | omega | exact Nat.le_refl _⟩, by repeat (first | exact Drawn0.refl _ | apply Drawn0.step)⟩
 case rest =>
  clear HC2
  try clear p2
  try clear c3
  try clear c3b0
  try clear c3b1
  obtain ⟨kq, x4_1, rfl, HA, HJ1, ⟨mc1, rfl⟩⟩ := hcut
  cases kq with
  | zero => exact absurd HA.out (by simp [ins_shape_registers.j0])
  | succ kj1 =>
   have H := HA.out
   clear HA
   simp only [ins_shape_registers.j0] at H
   by_cases c4 : x4_1 = true
   ·subst c4
    have H1 : (some 2) = some r := by rw [if_pos rfl] at H; exact H
    clear H
    have H := H1
    clear H1
    obtain rfl := Option.some.inj H
    go_wp2
    go_ret
    exact ⟨by first | rfl | (simp; done) | (simp [*]; done), by repeat (first | exact Drawn0.refl _ | apply Drawn0.step)⟩
   ·replace c4 := Bool.eq_false_iff.mpr c4
    subst c4
    have H1 : (if a0 = 1 then (some 1) else (if a0 = 4 then (some 1) else (if a0 = 8 then (some 1) else (if a0 = 9 then (some 1) else (some 0))))) = some r := by rw [if_neg (show ¬ (false = true) by decide)] at H; exact H
    clear H
    have H := H1
    clear H1
    by_cases c5 : a0 = 1
    ·rw [if_pos c5] at H
     have c5b0 : (a0 == 1) = true := z5 c5
     have c5b1 : (a0 != 1) = false := z6 c5
     clear c5
     obtain rfl := Option.some.inj H
     go_wp2
     go_ret
     exact ⟨by first | rfl | (simp; done) | (simp [*]; done), by repeat (first | exact Drawn0.refl _ | apply Drawn0.step)⟩
    ·rw [if_neg c5] at H
     have c5b0 : (a0 == 1) = false := z7 c5
     have c5b1 : (a0 != 1) = true := bne_iff_ne.mpr c5
     by_cases c6 : a0 = 4
     ·rw [if_pos c6] at H
      have c6b0 : (a0 == 4) = true := z5 c6
      have c6b1 : (a0 != 4) = false := z6 c6
      clear c6
      obtain rfl := Option.some.inj H
      go_wp2
      go_ret
      exact ⟨by first | rfl | (simp; done) | (simp [*]; done), by repeat (first | exact Drawn0.refl _ | apply Drawn0.step)⟩
     ·rw [if_neg c6] at H
      have c6b0 : (a0 == 4) = false := z7 c6
      have c6b1 : (a0 != 4) = true := bne_iff_ne.mpr c6
      by_cases c7 : a0 = 8
      ·rw [if_pos c7] at H
       have c7b0 : (a0 == 8) = true := z5 c7
       have c7b1 : (a0 != 8) = false := z6 c7
       clear c7
       obtain rfl := Option.some.inj H
       go_wp2
       go_ret
       exact ⟨by first | rfl | (simp; done) | (simp [*]; done), by repeat (first | exact Drawn0.refl _ | apply Drawn0.step)⟩
      ·rw [if_neg c7] at H
       have c7b0 : (a0 == 8) = false := z7 c7
       have c7b1 : (a0 != 8) = true := bne_iff_ne.mpr c7
       by_cases c8 : a0 = 9
       ·rw [if_pos c8] at H
        have c8b0 : (a0 == 9) = true := z5 c8
        have c8b1 : (a0 != 9) = false := z6 c8
        clear c8
        obtain rfl := Option.some.inj H
        go_wp2
        go_ret
        exact ⟨by first | rfl | (simp; done) | (simp [*]; done), by repeat (first | exact Drawn0.refl _ | apply Drawn0.step)⟩
       ·rw [if_neg c8] at H
        have c8b0 : (a0 == 9) = false := z7 c8
        have c8b1 : (a0 != 9) = true := bne_iff_ne.mpr c8
        obtain rfl := Option.some.inj H
        go_wp2
        go_ret
        exact ⟨by first | rfl | (simp; done) | (simp [*]; done), by repeat (first | exact Drawn0.refl _ | apply Drawn0.step)⟩
def ins_shape_width.j0 : Nat → Int → Bool → Option (Int)
 | 0, _, _ => none
 | k + 1, x3, x6 => if x6 = true then (some 4) else (if x3 = 7 then (some 1) else (if x3 = 8 then (some 1) else (if x3 = 10 then (some 1) else (some 0))))
def ins_shape_width.f (k : Nat) (a0 : Int) : Option (Int) := if a0 = 1 then (some 8) else (if a0 = 3 then (ins_shape_width.j0 k a0 (a0 == 3)) else (if a0 = 4 then (ins_shape_width.j0 k a0 (a0 == 4)) else (ins_shape_width.j0 k a0 (a0 == 5))))
set_option maxHeartbeats 8000000 in
set_option maxRecDepth 100000 in
theorem ins_shape_width.calls (k : Nat) (a0 : Int) (r : Int) (w : World) (h : ins_shape_width.f k a0 = some r) :
 Calls Tryd.prog 92 #[.int .u8 a0] w fun e w' => e = .returned (.int .i64 r) ∧ Drawn0 w w' := by
 have H : (if a0 = 1 then (some 8) else (if a0 = 3 then (ins_shape_width.j0 k a0 (a0 == 3)) else (if a0 = 4 then (ins_shape_width.j0 k a0 (a0 == 4)) else (ins_shape_width.j0 k a0 (a0 == 5))))) = some r := h
 clear h
 by_cases c2 : a0 = 1
 ·rw [if_pos c2] at H
  have c2b0 : (a0 == 1) = true := z5 c2
  have c2b1 : (a0 != 1) = false := z6 c2
  clear c2
  obtain rfl := Option.some.inj H
  go_enter Tryd.func92, Tryd.ntmps92
  go_wp2
  go_ret
  exact ⟨by first | rfl | (simp; done) | (simp [*]; done), by repeat (first | exact Drawn0.refl _ | apply Drawn0.step)⟩
 ·rw [if_neg c2] at H
  have c2b0 : (a0 == 1) = false := z7 c2
  have c2b1 : (a0 != 1) = true := bne_iff_ne.mpr c2
  have HC3 := z4 H
  clear H
  go_enter Tryd.func92, Tryd.ntmps92
  go_upto_if 6 with (fail)
  go_cut [6] (fun v6 wc => ∃ (kq : Nat) (x6_2 : Bool), v6 = .bool x6_2 ∧ Aside0 (ins_shape_width.j0 kq a0 x6_2 = some r) ∧ Aside0 (kq ≤ k) ∧ Drawn0 w wc)
  case first =>
   have H := HC3.out
   clear HC3
   by_cases c4 : a0 = 3
   ·rw [if_pos c4] at H
    have c4b0 : (a0 == 3) = true := z5 c4
    have c4b1 : (a0 != 3) = false := z6 c4
    clear c4
    (first | rw [c4b0] | (simp only [i64_w, i32_w]; rw [c4b0]) | skip)
    have H' := z4 H
    clear H
    go_wp2
    go_meet
    case rel => exact ⟨_, ((a0 == 3)), (by first | rfl | (simp; done) | (simp [*]; done)), H', ⟨by first | omega | exact Nat.le_refl _⟩, by repeat (first | exact Drawn0.refl _ | apply Drawn0.step)⟩
   ·rw [if_neg c4] at H
    have c4b0 : (a0 == 3) = false := z7 c4
    have c4b1 : (a0 != 3) = true := bne_iff_ne.mpr c4
    (first | rw [c4b0] | (simp only [i64_w, i32_w]; rw [c4b0]) | skip)
    by_cases c5 : a0 = 4
    ·rw [if_pos c5] at H
     have c5b0 : (a0 == 4) = true := z5 c5
     have c5b1 : (a0 != 4) = false := z6 c5
     clear c5
     have H' := z4 H
     clear H
     go_wp2
     go_meet
     case rel => exact ⟨_, ((a0 == 4)), (by first | rfl | (simp; done) | (simp [*]; done)), H', ⟨by first | omega | exact Nat.le_refl _⟩, by repeat (first | exact Drawn0.refl _ | apply Drawn0.step)⟩
    ·rw [if_neg c5] at H
     have c5b0 : (a0 == 4) = false := z7 c5
     have c5b1 : (a0 != 4) = true := bne_iff_ne.mpr c5
     have H' := z4 H
     clear H
     go_wp2
     go_meet
     case rel => exact ⟨_, ((a0 == 5)), (by first | rfl | (simp; done) | (simp [*]; done)), H', ⟨by first | omega | exact Nat.le_refl _⟩, by repeat (first | exact Drawn0.refl _ | apply Drawn0.step)⟩
  case rest =>
   clear HC3
   try clear c2
   try clear c2b0
   try clear c2b1
   try clear p2
   try clear c4
   try clear c4b0
   try clear c4b1
   try clear c5
   try clear c5b0
   try clear c5b1
   obtain ⟨kq, x6_2, rfl, HA, HJ2, ⟨mc2, rfl⟩⟩ := hcut
   cases kq with
   | zero => exact absurd HA.out (by simp [ins_shape_width.j0])
   | succ kj2 =>
    have H := HA.out
    clear HA
    simp only [ins_shape_width.j0] at H
    by_cases c6 : x6_2 = true
    ·subst c6
     have H1 : (some 4) = some r := by rw [if_pos rfl] at H; exact H
     clear H
     have H := H1
     clear H1
     obtain rfl := Option.some.inj H
     go_wp2
     go_ret
     exact ⟨by first | rfl | (simp; done) | (simp [*]; done), by repeat (first | exact Drawn0.refl _ | apply Drawn0.step)⟩
    ·replace c6 := Bool.eq_false_iff.mpr c6
     subst c6
     have H1 : (if a0 = 7 then (some 1) else (if a0 = 8 then (some 1) else (if a0 = 10 then (some 1) else (some 0)))) = some r := by rw [if_neg (show ¬ (false = true) by decide)] at H; exact H
     clear H
     have H := H1
     clear H1
     by_cases c7 : a0 = 7
     ·rw [if_pos c7] at H
      have c7b0 : (a0 == 7) = true := z5 c7
      have c7b1 : (a0 != 7) = false := z6 c7
      clear c7
      obtain rfl := Option.some.inj H
      go_wp2
      go_ret
      exact ⟨by first | rfl | (simp; done) | (simp [*]; done), by repeat (first | exact Drawn0.refl _ | apply Drawn0.step)⟩
     ·rw [if_neg c7] at H
      have c7b0 : (a0 == 7) = false := z7 c7
      have c7b1 : (a0 != 7) = true := bne_iff_ne.mpr c7
      by_cases c8 : a0 = 8
      ·rw [if_pos c8] at H
       have c8b0 : (a0 == 8) = true := z5 c8
       have c8b1 : (a0 != 8) = false := z6 c8
       clear c8
       obtain rfl := Option.some.inj H
       go_wp2
       go_ret
       exact ⟨by first | rfl | (simp; done) | (simp [*]; done), by repeat (first | exact Drawn0.refl _ | apply Drawn0.step)⟩
      ·rw [if_neg c8] at H
       have c8b0 : (a0 == 8) = false := z7 c8
       have c8b1 : (a0 != 8) = true := bne_iff_ne.mpr c8
       by_cases c9 : a0 = 10
       ·rw [if_pos c9] at H
        have c9b0 : (a0 == 10) = true := z5 c9
        have c9b1 : (a0 != 10) = false := z6 c9
        clear c9
        obtain rfl := Option.some.inj H
        go_wp2
        go_ret
        exact ⟨by first | rfl | (simp; done) | (simp [*]; done), by repeat (first | exact Drawn0.refl _ | apply Drawn0.step)⟩
       ·rw [if_neg c9] at H
        have c9b0 : (a0 == 10) = false := z7 c9
        have c9b1 : (a0 != 10) = true := bne_iff_ne.mpr c9
        obtain rfl := Option.some.inj H
        go_wp2
        go_ret
        exact ⟨by first | rfl | (simp; done) | (simp [*]; done), by repeat (first | exact Drawn0.refl _ | apply Drawn0.step)⟩
def ins_shape_size.f (k : Nat) (a0 : Int) : Option (Int) := if a0 = 0 then (some 0) else ((ins_shape_registers.f k a0).bind fun t101 => (if t101 > 0 then ((ins_shape_width.f k a0).bind fun t102 => (some (wrap64 (2 + t102)))) else ((ins_shape_width.f k a0).bind fun t103 => (some (wrap64 (1 + t103))))))
set_option maxHeartbeats 8000000 in
set_option maxRecDepth 100000 in
theorem ins_shape_size.calls (k : Nat) (a0 : Int) (r : Int) (w : World) (h : ins_shape_size.f k a0 = some r) :
 Calls Tryd.prog 77 #[.int .u8 a0] w fun e w' => e = .returned (.int .i64 r) ∧ Drawn0 w w' := by
 have H : (if a0 = 0 then (some 0) else ((ins_shape_registers.f k a0).bind fun t101 => (if t101 > 0 then ((ins_shape_width.f k a0).bind fun t102 => (some (wrap64 (2 + t102)))) else ((ins_shape_width.f k a0).bind fun t103 => (some (wrap64 (1 + t103))))))) = some r := h
 clear h
 by_cases c2 : a0 = 0
 ·rw [if_pos c2] at H
  have c2b0 : (a0 == 0) = true := z5 c2
  have c2b1 : (a0 != 0) = false := z6 c2
  clear c2
  obtain rfl := Option.some.inj H
  go_enter Tryd.func77, Tryd.ntmps77
  go_wp2
  go_ret
  exact ⟨by first | rfl | (simp; done) | (simp [*]; done), by repeat (first | exact Drawn0.refl _ | apply Drawn0.step)⟩
 ·rw [if_neg c2] at H
  have c2b0 : (a0 == 0) = false := z7 c2
  have c2b1 : (a0 != 0) = true := bne_iff_ne.mpr c2
  replace H := z8 H
  obtain ⟨t101, A30, H⟩ := H
  replace H : (if t101 > 0 then ((ins_shape_width.f k a0).bind fun t102 => (some (wrap64 (2 + t102)))) else ((ins_shape_width.f k a0).bind fun t103 => (some (wrap64 (1 + t103))))) = some r := H
  have A3 := z4 A30
  clear A30
  by_cases c4 : t101 > 0
  ·rw [if_pos c4] at H
   have c4b0 : decide (0 < t101) = true := decide_eq_true c4
   clear c4
   replace H := z8 H
   obtain ⟨t102, A50, H⟩ := H
   replace H : (some (wrap64 (2 + t102))) = some r := H
   have A5 := z4 A50
   clear A50
   obtain rfl := Option.some.inj H
   go_enter Tryd.func77, Tryd.ntmps77
   go_wp2_with (first | ((with_reducible refine gate_callee (f := 91) rfl ?_); refine goesL_ (some 8) rfl rfl Tryd.func91 (by kernel_rfl) rfl #[.int .u8 a0] rfl (by (try simp only [z9, List.map_cons, List.map_nil]); first | done | rfl | (simp only [z9a, z9b]; rfl)) ?_; (with_reducible refine (ins_shape_registers.calls k a0 t101 _ A3.out).mono ?_); rintro e w' ⟨rfl, ⟨nd, rfl⟩⟩; refine ⟨_, rfl, ?_⟩) | ((with_reducible refine gate_callee (f := 92) rfl ?_); refine goesL_ (some 11) rfl rfl Tryd.func92 (by kernel_rfl) rfl #[.int .u8 a0] rfl (by (try simp only [z9, List.map_cons, List.map_nil]); first | done | rfl | (simp only [z9a, z9b]; rfl)) ?_; (with_reducible refine (ins_shape_width.calls k a0 t102 _ A5.out).mono ?_); rintro e w' ⟨rfl, ⟨nd, rfl⟩⟩; refine ⟨_, rfl, ?_⟩))
   go_ret
   exact ⟨by first | rfl | (simp; done) | (simp [*]; done), by repeat (first | exact Drawn0.refl _ | apply Drawn0.step)⟩
  ·rw [if_neg c4] at H
   have c4b0 : decide (0 < t101) = false := decide_eq_false c4
   clear c4
   replace H := z8 H
   obtain ⟨t103, A60, H⟩ := H
   replace H : (some (wrap64 (1 + t103))) = some r := H
   have A6 := z4 A60
   clear A60
   obtain rfl := Option.some.inj H
   go_enter Tryd.func77, Tryd.ntmps77
   go_wp2_with (first | ((with_reducible refine gate_callee (f := 91) rfl ?_); refine goesL_ (some 8) rfl rfl Tryd.func91 (by kernel_rfl) rfl #[.int .u8 a0] rfl (by (try simp only [z9, List.map_cons, List.map_nil]); first | done | rfl | (simp only [z9a, z9b]; rfl)) ?_; (with_reducible refine (ins_shape_registers.calls k a0 t101 _ A3.out).mono ?_); rintro e w' ⟨rfl, ⟨nd, rfl⟩⟩; refine ⟨_, rfl, ?_⟩) | ((with_reducible refine gate_callee (f := 92) rfl ?_); refine goesL_ (some 14) rfl rfl Tryd.func92 (by kernel_rfl) rfl #[.int .u8 a0] rfl (by (try simp only [z9, List.map_cons, List.map_nil]); first | done | rfl | (simp only [z9a, z9b]; rfl)) ?_; (with_reducible refine (ins_shape_width.calls k a0 t103 _ A6.out).mono ?_); rintro e w' ⟨rfl, ⟨nd, rfl⟩⟩; refine ⟨_, rfl, ?_⟩))
   go_ret
   exact ⟨by first | rfl | (simp; done) | (simp [*]; done), by repeat (first | exact Drawn0.refl _ | apply Drawn0.step)⟩
end Go.Proofs.YtimhcpmfhebbhaaDoor.M
namespace Go.Proofs.YtimhcpmfhebbhaaDoor.M
open Go.RowKit Go.Proofs.YtimhcpmfhebbhaaDoorW.PrintWords Go.Proofs.YtimhcpmfhebbhaaDoorW.PrintLast
set_option linter.unusedVariables false
set_option linter.unusedSimpArgs false
mutual
def ins_Decode.j0 : Nat → ByteArray → Int → Bool → Option (Int × Int × Int × Int × Int × Int)
 | 0, _, _, _ => none
 | k + 1, x0, x1, x11 => if x11 = true then (some (0, 0, 0, 0, 0, 1)) else (if x1 = (x0.size : Int) then (some (0, 0, 0, 0, 0, 9)) else (if 0 ≤ x1 then (if x1 < (x0.size : Int) then ((ins_shapeOf.f (wrap64 (bt x0 x1))).bind fun t106 => (if t106 = 0 then (ins_Decode.j1 k x0 x1 t106 true (wrap64 (bt x0 x1)) 0 0 0) else ((ins_shape_size.f k t106).bind fun t107 => (ins_Decode.j1 k x0 x1 t106 (decide ((wrap64 ((x0.size : Int) - x1)) < t107)) (wrap64 (bt x0 x1)) 0 0 0)))) else (none)) else (none)))
def ins_Decode.j1 : Nat → ByteArray → Int → Int → Bool → Int → Int → Int → Int → Option (Int × Int × Int × Int × Int × Int)
 | 0, _, _, _, _, _, _, _, _ => none
 | k + 1, x0, x1, x8, x45, x106000, x106001, x106002, x106003 => if x45 = true then (some (0, 0, 0, 0, 0, 9)) else ((ins_shape_size.f k x8).bind fun t108 => ((ins_shape_registers.f k x8).bind fun t109 => (if t109 = 1 then (if 0 ≤ (wrap64 (x1 + 1)) then (if (wrap64 (x1 + 1)) < (x0.size : Int) then (ins_Decode.j2 k x0 x8 (wrap64 (x1 + t108)) x106000 (wrap64 (bt x0 (wrap64 (x1 + 1)))) x106002 x106003) else (none)) else (none)) else (if t109 = 2 then (if 0 ≤ (wrap64 (x1 + 1)) then (if (wrap64 (x1 + 1)) < (x0.size : Int) then (ins_Decode.j2 k x0 x8 (wrap64 (x1 + t108)) x106000 (wrap64 ((bt x0 (wrap64 (x1 + 1))) / 16)) (wrap64 (Go.bits .and .u8 (bt x0 (wrap64 (x1 + 1))) 15)) x106003) else (none)) else (none)) else (ins_Decode.j2 k x0 x8 (wrap64 (x1 + t108)) x106000 x106001 x106002 x106003)))))
def ins_Decode.j2 : Nat → ByteArray → Int → Int → Int → Int → Int → Int → Option (Int × Int × Int × Int × Int × Int)
 | 0, _, _, _, _, _, _, _ => none
 | k + 1, x0, x8, x9, x106000, x106001, x106002, x106003 => (ins_shape_width.f k x8).bind fun t110 => (if t110 > 0 then (if 0 ≤ (wrap64 (x9 - t110)) then (if (wrap64 (x9 - t110)) ≤ x9 then (if x9 ≤ (x0.size : Int) then ((word_Number.f k (x0.extract ((wrap64 (x9 - t110)) : Int).toNat (x9 : Int).toNat)).bind fun bt111 => (ins_Decode.j3 k x8 x9 x106000 x106001 x106002 bt111.1)) else (none)) else (none)) else (none)) else (ins_Decode.j3 k x8 x9 x106000 x106001 x106002 x106003))
def ins_Decode.j3 : Nat → Int → Int → Int → Int → Int → Int → Option (Int × Int × Int × Int × Int × Int)
 | 0, _, _, _, _, _, _ => none
 | k + 1, x8, x9, x106000, x106001, x106002, x106003 => (ins_isRegister.f x106001).bind fun t113 => (if t113 = true then ((ins_isRegister.f x106002).bind fun t114 => (if t114 = true then (if x8 = 10 then (if x106003 < 0 then (some (0, 0, 0, 0, 0, 9)) else (some (x106000, x106001, x106002, x106003, x9, 0))) else (some (x106000, x106001, x106002, x106003, x9, 0))) else (some (0, 0, 0, 0, 0, 9)))) else (some (0, 0, 0, 0, 0, 9)))
end
def ins_Decode.f (k : Nat) (a0 : ByteArray) (a1 : Int) : Option (Int × Int × Int × Int × Int × Int) := if a1 < 0 then (ins_Decode.j0 k a0 a1 true) else (ins_Decode.j0 k a0 a1 (decide (a1 > (a0.size : Int))))
def ins_Decode.T14 : Bool × List (List Nat × List Nat) := (true, [([], []), ([], []), ([1], [1]), ([0, 2], [0, 2]), ([3], [3]), ([4], [4]), ([], []), ([], []), ([7], [7]), ([6, 8], [6, 8]), ([9], [9]), ([10], [10]), ([0, 1, 2, 3, 4, 5], []), ([12, 5, 0, 1, 2, 3, 4, 5], [5, 12]), ([0, 1, 2, 3, 4, 5, 6, 7, 8, 9, 10, 11, 12, 13], []), ([14, 11, 13, 0, 1, 2, 3, 4, 5, 6, 7, 8, 9, 10, 11, 12, 13], [11, 14])])
def ins_Decode.B14 : List Nat := [0, 0, 2, 7, 15, 31, 0, 0, 128, 448, 960, 1984, 63, 4159, 16383, 32767]
theorem ins_Decode.tab14 : rtab .any (opsOf Tryd.f75 14) = ins_Decode.T14 := by kernel_rfl
theorem ins_Decode.bits14 : waitsOk ins_Decode.T14.2 ins_Decode.B14 = true := by kernel_rfl
set_option maxHeartbeats 8000000 in
set_option maxRecDepth 100000 in
theorem ins_Decode.calls (k : Nat) (a0 : ByteArray) (a1 : Int) (r1 : Int) (r2 : Int) (r3 : Int) (r4 : Int) (r5 : Int) (r6 : Int) (w : World) (hG : Glob w) (h : ins_Decode.f k a0 a1 = some (r1, r2, r3, r4, r5, r6)) :
 Calls Tryd.prog 75 #[.string a0, .int .i64 a1] w fun e w' => e = .returned (.tuple #[.agg #[.int .i64 r1, .int .i64 r2, .int .i64 r3, .int .i64 r4], .int .i64 r5, .int .i64 r6]) ∧ Below w.heap.size w w' := by
 have HG := z4 hG
 clear hG
 have hu79 := Tryd.underlying79
 have HB := z4 (Below.refl w.heap.size w)
 have H : (if a1 < 0 then (ins_Decode.j0 k a0 a1 true) else (ins_Decode.j0 k a0 a1 (decide (a1 > (a0.size : Int))))) = some (r1, r2, r3, r4, r5, r6) := h
 clear h
 have HC3 := z4 H
 clear H
 go_enter Tryd.func75, Tryd.ntmps75
 go_upto_region 1 with (first | ((with_reducible refine gate_dst (N := 4) rfl ?_); (try (refine gate_guard (by rfl) ?_; dsimp only)); refine box_event ?hg (N := 4) ?hd (cs := #[.int .i64 0, .int .i64 0, .int .i64 0, .int .i64 0]) (t := 79) ?hr ?_; (case hd => rfl); (case hg => rfl); (case hr => first | (go_simp; done) | (go_simp; rfl)); intro gb104 hg w4 hbox hb; have n0_ := z4 (zK (by repeat (first | exact HB.out | apply zA | apply zB | apply zD)) hb); have n1_ := z4 (hbox); have n2_ := z4 ((by rw [hg]; exact (zL (by repeat (first | exact HB.out | apply zA | apply zB | apply zD))) : w.heap.size ≤ gb104)); have n3_ := z4 ((by rw [hg]; exact (zL (by repeat (first | exact HB.out | apply zA | apply zB | apply zD))) : w.heap.size ≤ gb104)); clear HB; have HB := n0_; have BK104 := n1_; have GW104 := n2_; have GE104 := n3_; clear n0_ n1_ n2_ n3_; clear hb hbox hg))
 (try simp only [Act.put, z1, z2, z3])
 go_cut [11] (fun v11 wc => ∃ (kq : Nat) (x11_2 : Bool), v11 = .bool x11_2 ∧ Aside0 (ins_Decode.j0 kq a0 a1 x11_2 = some (r1, r2, r3, r4, r5, r6)) ∧ Aside0 (kq ≤ k) ∧ Aside0 (wc.heap[gb104]? = some (.cells #[.int .i64 0, .int .i64 0, .int .i64 0, .int .i64 0] 79 (0, 0))) ∧ Aside0 (Below w.heap.size w wc))
 case first =>
  have H := HC3.out
  clear HC3
  by_cases c5 : a1 < 0
  ·rw [if_pos c5] at H
   have c5b0 : decide (a1 < 0) = true := decide_eq_true c5
   clear c5
   (first | rw [c5b0] | (simp only [i64_w, i32_w]; rw [c5b0]) | skip)
   have H' := z4 H
   clear H
   go_wp2
   go_meet
   case rel => exact ⟨_, (true), (by first | rfl | (simp; done) | (simp [*]; done)), H', ⟨by first | omega | exact Nat.le_refl _⟩, ⟨by (with_reducible repeat (first | refine zH ?_ _ | refine zI ?_ | refine zG ?_ _)); exact BK104.out⟩, ⟨by repeat (first | exact HB.out | apply zA | apply zB | apply zD | refine zJ ?_ GE104.out)⟩⟩
  ·rw [if_neg c5] at H
   have c5b0 : decide (a1 < 0) = false := decide_eq_false c5
   clear c5
   (first | rw [c5b0] | (simp only [i64_w, i32_w]; rw [c5b0]) | skip)
   have H' := z4 H
   clear H
   go_wp2
   go_meet
   case rel => exact ⟨_, (decide (a1 > (a0.size : Int))), (by first | rfl | (simp; done) | (simp [*]; done)), H', ⟨by first | omega | exact Nat.le_refl _⟩, ⟨by (with_reducible repeat (first | refine zH ?_ _ | refine zI ?_ | refine zG ?_ _)); exact BK104.out⟩, ⟨by repeat (first | exact HB.out | apply zA | apply zB | apply zD | refine zJ ?_ GE104.out)⟩⟩
 case rest =>
  clear HC3
  try clear p2
  try clear c5
  try clear c5b0
  obtain ⟨kq, x11_2, rfl, HA, HJ2, BK104, HB⟩ := hcut
  cases kq with
  | zero => exact absurd HA.out (by simp [ins_Decode.j0])
  | succ kj2 =>
   have H := HA.out
   clear HA
   simp only [ins_Decode.j0] at H
   by_cases c6 : x11_2 = true
   ·subst c6
    have H1 : (some (0, 0, 0, 0, 0, 1)) = some (r1, r2, r3, r4, r5, r6) := by rw [if_pos rfl] at H; exact H
    clear H
    have H := H1
    clear H1
    simp only [Option.some.injEq, Prod.mk.injEq] at H
    obtain ⟨rfl, rfl, rfl, rfl, rfl, rfl⟩ := H
    have hcz7_0 : wc.cell? ⟨gb104, 0, none⟩ = some (.int .i64 0) := (zC BK104.out 0).trans rfl
    have hcz7_1 : wc.cell? ⟨gb104, 1, none⟩ = some (.int .i64 0) := (zC BK104.out 1).trans rfl
    have hcz7_2 : wc.cell? ⟨gb104, 2, none⟩ = some (.int .i64 0) := (zC BK104.out 2).trans rfl
    have hcz7_3 : wc.cell? ⟨gb104, 3, none⟩ = some (.int .i64 0) := (zC BK104.out 3).trans rfl
    have hfz7_0 := zF BK104.out 0
    have hfz7_1 := zF BK104.out 1
    have hfz7_2 := zF BK104.out 2
    have hfz7_3 := zF BK104.out 3
    go_wp2
    refine bodyPost_ret (results_ctt rfl _ _ gb104 79 #[.int .i64 0, .int .i64 0, .int .i64 0, .int .i64 0] (0, 0) _ rfl (by (with_reducible repeat (first | refine zH ?_ _ | refine zI ?_ | refine zG ?_ _)); refine blk_put (cs := #[.int .i64 0, .int .i64 0, .int .i64 0, .int .i64 0]) ?_ 3 _ rfl; (with_reducible repeat (first | refine zH ?_ _ | refine zI ?_ | refine zG ?_ _)); refine blk_put (cs := #[.int .i64 0, .int .i64 0, .int .i64 0, .int .i64 0]) ?_ 2 _ rfl; (with_reducible repeat (first | refine zH ?_ _ | refine zI ?_ | refine zG ?_ _)); refine blk_put (cs := #[.int .i64 0, .int .i64 0, .int .i64 0, .int .i64 0]) ?_ 1 _ rfl; (with_reducible repeat (first | refine zH ?_ _ | refine zI ?_ | refine zG ?_ _)); refine blk_put (cs := #[.int .i64 0, .int .i64 0, .int .i64 0, .int .i64 0]) ?_ 0 _ rfl; (with_reducible repeat (first | refine zH ?_ _ | refine zI ?_ | refine zG ?_ _)); exact BK104.out) Tryd.underlying79 rfl (by kernel_rfl)) rfl ?_
    exact ⟨by first | rfl | (simp [errW_none, errW_some] <;> rfl) | (simp [*, errW_none, errW_some] <;> rfl), by repeat (first | exact HB.out | apply zA | apply zB | apply zD | refine zJ ?_ GE104.out)⟩
   ·replace c6 := Bool.eq_false_iff.mpr c6
    subst c6
    have H1 : (if a1 = (a0.size : Int) then (some (0, 0, 0, 0, 0, 9)) else (if 0 ≤ a1 then (if a1 < (a0.size : Int) then ((ins_shapeOf.f (wrap64 (bt a0 a1))).bind fun t106 => (if t106 = 0 then (ins_Decode.j1 kj2 a0 a1 t106 true (wrap64 (bt a0 a1)) 0 0 0) else ((ins_shape_size.f kj2 t106).bind fun t107 => (ins_Decode.j1 kj2 a0 a1 t106 (decide ((wrap64 ((a0.size : Int) - a1)) < t107)) (wrap64 (bt a0 a1)) 0 0 0)))) else (none)) else (none))) = some (r1, r2, r3, r4, r5, r6) := by rw [if_neg (show ¬ (false = true) by decide)] at H; exact H
    clear H
    have H := H1
    clear H1
    by_cases c8 : a1 = (a0.size : Int)
    ·rw [if_pos c8] at H
     have c8b0 : (a1 == (a0.size : Int)) = true := z5 c8
     have c8b1 : (a1 != (a0.size : Int)) = false := z6 c8
     clear c8
     simp only [Option.some.injEq, Prod.mk.injEq] at H
     obtain ⟨rfl, rfl, rfl, rfl, rfl, rfl⟩ := H
     have hcz9_0 : wc.cell? ⟨gb104, 0, none⟩ = some (.int .i64 0) := (zC BK104.out 0).trans rfl
     have hcz9_1 : wc.cell? ⟨gb104, 1, none⟩ = some (.int .i64 0) := (zC BK104.out 1).trans rfl
     have hcz9_2 : wc.cell? ⟨gb104, 2, none⟩ = some (.int .i64 0) := (zC BK104.out 2).trans rfl
     have hcz9_3 : wc.cell? ⟨gb104, 3, none⟩ = some (.int .i64 0) := (zC BK104.out 3).trans rfl
     have hfz9_0 := zF BK104.out 0
     have hfz9_1 := zF BK104.out 1
     have hfz9_2 := zF BK104.out 2
     have hfz9_3 := zF BK104.out 3
     go_wp2
     refine bodyPost_ret (results_ctt rfl _ _ gb104 79 #[.int .i64 0, .int .i64 0, .int .i64 0, .int .i64 0] (0, 0) _ rfl (by (with_reducible repeat (first | refine zH ?_ _ | refine zI ?_ | refine zG ?_ _)); refine blk_put (cs := #[.int .i64 0, .int .i64 0, .int .i64 0, .int .i64 0]) ?_ 3 _ rfl; (with_reducible repeat (first | refine zH ?_ _ | refine zI ?_ | refine zG ?_ _)); refine blk_put (cs := #[.int .i64 0, .int .i64 0, .int .i64 0, .int .i64 0]) ?_ 2 _ rfl; (with_reducible repeat (first | refine zH ?_ _ | refine zI ?_ | refine zG ?_ _)); refine blk_put (cs := #[.int .i64 0, .int .i64 0, .int .i64 0, .int .i64 0]) ?_ 1 _ rfl; (with_reducible repeat (first | refine zH ?_ _ | refine zI ?_ | refine zG ?_ _)); refine blk_put (cs := #[.int .i64 0, .int .i64 0, .int .i64 0, .int .i64 0]) ?_ 0 _ rfl; (with_reducible repeat (first | refine zH ?_ _ | refine zI ?_ | refine zG ?_ _)); exact BK104.out) Tryd.underlying79 rfl (by kernel_rfl)) rfl ?_
     exact ⟨by first | rfl | (simp [errW_none, errW_some] <;> rfl) | (simp [*, errW_none, errW_some] <;> rfl), by repeat (first | exact HB.out | apply zA | apply zB | apply zD | refine zJ ?_ GE104.out)⟩
    ·rw [if_neg c8] at H
     have c8b0 : (a1 == (a0.size : Int)) = false := z7 c8
     have c8b1 : (a1 != (a0.size : Int)) = true := bne_iff_ne.mpr c8
     by_cases c10 : 0 ≤ a1
     ·rw [if_pos c10] at H
      have c10b0 : decide (0 ≤ a1) = true := decide_eq_true c10
      clear c10
      by_cases c11 : a1 < (a0.size : Int)
      ·rw [if_pos c11] at H
       have c11b0 : decide (a1 < (a0.size : Int)) = true := decide_eq_true c11
       clear c11
       replace H := z8 H
       obtain ⟨t106, A130, H⟩ := H
       replace H : (if t106 = 0 then (ins_Decode.j1 kj2 a0 a1 t106 true (wrap64 (bt a0 a1)) 0 0 0) else ((ins_shape_size.f kj2 t106).bind fun t107 => (ins_Decode.j1 kj2 a0 a1 t106 (decide ((wrap64 ((a0.size : Int) - a1)) < t107)) (wrap64 (bt a0 a1)) 0 0 0))) = some (r1, r2, r3, r4, r5, r6) := H
       have A13 := z4 A130
       clear A130
       have HC14 := z4 H
       clear H
       have p12 : 0 ≤ (a1 : Int) := of_decide_eq_true (by first | (with_reducible assumption) | assumption)
       have q12 : a1 < (a0.size : Int) := of_decide_eq_true (by first | (with_reducible assumption) | assumption)
       have hx12 := bt_at a0 a1
       replace p12 := eq_true p12
       replace q12 := eq_true q12
       go_upto_region 7 with (first | ((with_reducible refine gate_dst (N := 7) rfl ?_); (try (refine gate_guard (by rfl) ?_; dsimp only)); refine box_event ?hg (N := 7) ?hd (cs := #[.int .i64 0, .int .i64 0, .int .i64 0, .int .i64 0]) (t := 79) ?hr ?_; (case hd => rfl); (case hg => rfl); (case hr => first | (go_simp; done) | (go_simp; rfl)); intro gb105 hg w15 hbox hb; have n0_ := z4 (blk_below (g := gb104) (o := .cells #[.int .i64 0, .int .i64 0, .int .i64 0, .int .i64 0] 79 (0, 0)) (by (with_reducible repeat (first | refine zH ?_ _ | refine zI ?_ | refine zG ?_ _)); exact BK104.out) hb); have n1_ := z4 (zK (by repeat (first | exact HB.out | apply zA | apply zB | apply zD | refine zJ ?_ GE104.out)) hb); have n2_ := z4 (hbox); have n3_ := z4 ((by rw [hg]; exact (zL (by repeat (first | exact HB.out | apply zA | apply zB | apply zD | refine zJ ?_ GE104.out))) : w.heap.size ≤ gb105)); have n4_ := z4 ((by rw [hg]; exact (zL (by repeat (first | exact HB.out | apply zA | apply zB | apply zD | refine zJ ?_ GE104.out))) : w.heap.size ≤ gb105)); have n5_ := z4 ((by rw [hg]; exact Nat.ne_of_lt (blk_lt (g := gb104) (o := .cells #[.int .i64 0, .int .i64 0, .int .i64 0, .int .i64 0] 79 (0, 0)) (by (with_reducible repeat (first | refine zH ?_ _ | refine zI ?_ | refine zG ?_ _)); exact BK104.out)) : gb104 ≠ gb105)); have n6_ := z4 ((by rw [hg]; exact Nat.ne_of_gt (blk_lt (g := gb104) (o := .cells #[.int .i64 0, .int .i64 0, .int .i64 0, .int .i64 0] 79 (0, 0)) (by (with_reducible repeat (first | refine zH ?_ _ | refine zI ?_ | refine zG ?_ _)); exact BK104.out)) : gb105 ≠ gb104)); clear BK104; clear HB; have BK104 := n0_; have HB := n1_; have BK105 := n2_; have GW105 := n3_; have GE105 := n4_; have NB104_105 := n5_; have NB105_104 := n6_; clear n0_ n1_ n2_ n3_ n4_ n5_ n6_; clear hb hbox hg; have hnb16 := NB105_104.out; have hnc16 := NB104_105.out; have hcz17_0 : w15.cell? ⟨gb105, 0, none⟩ = some (.int .i64 0) := (zC BK105.out 0).trans rfl; have hcz17_1 : w15.cell? ⟨gb105, 1, none⟩ = some (.int .i64 0) := (zC BK105.out 1).trans rfl; have hcz17_2 : w15.cell? ⟨gb105, 2, none⟩ = some (.int .i64 0) := (zC BK105.out 2).trans rfl; have hcz17_3 : w15.cell? ⟨gb105, 3, none⟩ = some (.int .i64 0) := (zC BK105.out 3).trans rfl; have hfz17_0 := zF BK105.out 0; have hfz17_1 := zF BK105.out 1; have hfz17_2 := zF BK105.out 2; have hfz17_3 := zF BK105.out 3) | ((with_reducible refine gate_callee (f := 76) rfl ?_); refine goesL_ (some 34) rfl rfl Tryd.func76 (by kernel_rfl) rfl #[.int .i64 (wrap64 (bt a0 a1))] rfl (by (try simp only [z9, List.map_cons, List.map_nil]); first | done | rfl | (simp only [z9a, z9b]; rfl)) ?_; (with_reducible refine (ins_shapeOf.calls (wrap64 (bt a0 a1)) t106 _ (HG.out.below (by first | exact Below.refl _ _ | (repeat (first | exact HB.out | apply zA | apply zB | apply zD | refine zJ ?_ GE104.out | refine zJ ?_ GE105.out))) rfl) A13.out).mono ?_); rintro e w' ⟨rfl, ⟨nd, rfl⟩⟩; refine ⟨_, rfl, ?_⟩))
       (try simp only [Act.put, z1, z2, z3])
       go_cut [45] (fun v45 wc => ∃ (kq : Nat) (x45_13 : Bool), v45 = .bool x45_13 ∧ Aside0 (ins_Decode.j1 kq a0 a1 t106 x45_13 (wrap64 (bt a0 a1)) 0 0 0 = some (r1, r2, r3, r4, r5, r6)) ∧ Aside0 (kq ≤ kj2) ∧ Aside0 (wc.heap[gb104]? = some (.cells #[.int .i64 0, .int .i64 0, .int .i64 0, .int .i64 0] 79 (0, 0))) ∧ Aside0 (wc.heap[gb105]? = some (.cells #[.int .i64 (wrap64 (bt a0 a1)), .int .i64 0, .int .i64 0, .int .i64 0] 79 (0, 0))) ∧ Aside0 (Below w.heap.size w wc))
       case first =>
        have H := HC14.out
        clear HC14
        by_cases c18 : t106 = 0
        ·rw [if_pos c18] at H
         have c18b0 : (t106 == 0) = true := z5 c18
         have c18b1 : (t106 != 0) = false := z6 c18
         clear c18
         (first | rw [c18b0] | (simp only [i64_w, i32_w]; rw [c18b0]) | skip)
         have H' := z4 H
         clear H
         go_wp2
         go_meet
         case rel => exact ⟨_, (true), (by first | rfl | (simp; done) | (simp [*]; done)), H', ⟨by have := HJ2.out; first | omega | exact Nat.le_refl _⟩, ⟨by (with_reducible repeat (first | refine zH ?_ _ | refine zI ?_ | refine zG ?_ _)); refine blk_far ?_ NB104_105.out _; (with_reducible repeat (first | refine zH ?_ _ | refine zI ?_ | refine zG ?_ _)); refine blk_far ?_ NB104_105.out _; (with_reducible repeat (first | refine zH ?_ _ | refine zI ?_ | refine zG ?_ _)); refine blk_far ?_ NB104_105.out _; (with_reducible repeat (first | refine zH ?_ _ | refine zI ?_ | refine zG ?_ _)); refine blk_far ?_ NB104_105.out _; (with_reducible repeat (first | refine zH ?_ _ | refine zI ?_ | refine zG ?_ _)); exact BK104.out⟩, ⟨by (with_reducible repeat (first | refine zH ?_ _ | refine zI ?_ | refine zG ?_ _)); refine blk_put (cs := #[.int .i64 (wrap64 (bt a0 a1)), .int .i64 0, .int .i64 0, .int .i64 0]) ?_ 3 _ rfl; (with_reducible repeat (first | refine zH ?_ _ | refine zI ?_ | refine zG ?_ _)); refine blk_put (cs := #[.int .i64 (wrap64 (bt a0 a1)), .int .i64 0, .int .i64 0, .int .i64 0]) ?_ 2 _ rfl; (with_reducible repeat (first | refine zH ?_ _ | refine zI ?_ | refine zG ?_ _)); refine blk_put (cs := #[.int .i64 (wrap64 (bt a0 a1)), .int .i64 0, .int .i64 0, .int .i64 0]) ?_ 1 _ rfl; (with_reducible repeat (first | refine zH ?_ _ | refine zI ?_ | refine zG ?_ _)); refine blk_put (cs := #[.int .i64 0, .int .i64 0, .int .i64 0, .int .i64 0]) ?_ 0 _ rfl; (with_reducible repeat (first | refine zH ?_ _ | refine zI ?_ | refine zG ?_ _)); exact BK105.out⟩, ⟨by repeat (first | exact HB.out | apply zA | apply zB | apply zD | refine zJ ?_ GE104.out | refine zJ ?_ GE105.out)⟩⟩
        ·rw [if_neg c18] at H
         have c18b0 : (t106 == 0) = false := z7 c18
         have c18b1 : (t106 != 0) = true := bne_iff_ne.mpr c18
         (first | rw [c18b0] | (simp only [i64_w, i32_w]; rw [c18b0]) | skip)
         replace H := z8 H
         obtain ⟨t107, A190, H⟩ := H
         replace H : (ins_Decode.j1 kj2 a0 a1 t106 (decide ((wrap64 ((a0.size : Int) - a1)) < t107)) (wrap64 (bt a0 a1)) 0 0 0) = some (r1, r2, r3, r4, r5, r6) := H
         have A19 := z4 A190
         clear A190
         have H' := z4 H
         clear H
         go_wp2_with (first | (go_at_call 77; (with_reducible refine (ins_shape_size.calls kj2 t106 t107 _ A19.out).mono ?_); rintro e w' ⟨rfl, ⟨nd, rfl⟩⟩))
         go_meet
         case rel => exact ⟨_, (decide ((wrap64 ((a0.size : Int) - a1)) < t107)), (by first | rfl | (simp; done) | (simp [*]; done)), H', ⟨by have := HJ2.out; first | omega | exact Nat.le_refl _⟩, ⟨by (with_reducible repeat (first | refine zH ?_ _ | refine zI ?_ | refine zG ?_ _)); refine blk_far ?_ NB104_105.out _; (with_reducible repeat (first | refine zH ?_ _ | refine zI ?_ | refine zG ?_ _)); refine blk_far ?_ NB104_105.out _; (with_reducible repeat (first | refine zH ?_ _ | refine zI ?_ | refine zG ?_ _)); refine blk_far ?_ NB104_105.out _; (with_reducible repeat (first | refine zH ?_ _ | refine zI ?_ | refine zG ?_ _)); refine blk_far ?_ NB104_105.out _; (with_reducible repeat (first | refine zH ?_ _ | refine zI ?_ | refine zG ?_ _)); exact BK104.out⟩, ⟨by (with_reducible repeat (first | refine zH ?_ _ | refine zI ?_ | refine zG ?_ _)); refine blk_put (cs := #[.int .i64 (wrap64 (bt a0 a1)), .int .i64 0, .int .i64 0, .int .i64 0]) ?_ 3 _ rfl; (with_reducible repeat (first | refine zH ?_ _ | refine zI ?_ | refine zG ?_ _)); refine blk_put (cs := #[.int .i64 (wrap64 (bt a0 a1)), .int .i64 0, .int .i64 0, .int .i64 0]) ?_ 2 _ rfl; (with_reducible repeat (first | refine zH ?_ _ | refine zI ?_ | refine zG ?_ _)); refine blk_put (cs := #[.int .i64 (wrap64 (bt a0 a1)), .int .i64 0, .int .i64 0, .int .i64 0]) ?_ 1 _ rfl; (with_reducible repeat (first | refine zH ?_ _ | refine zI ?_ | refine zG ?_ _)); refine blk_put (cs := #[.int .i64 0, .int .i64 0, .int .i64 0, .int .i64 0]) ?_ 0 _ rfl; (with_reducible repeat (first | refine zH ?_ _ | refine zI ?_ | refine zG ?_ _)); exact BK105.out⟩, ⟨by repeat (first | exact HB.out | apply zA | apply zB | apply zD | refine zJ ?_ GE104.out | refine zJ ?_ GE105.out)⟩⟩
       case rest =>
        clear HC14
        try clear c1
        try clear p1
        try clear q1
        try clear hx1
        try clear p2
        try clear c5
        try clear c5b0
        try clear c6
        try clear p6
        try clear c7
        try clear c8
        try clear c8b0
        try clear c8b1
        try clear c10
        try clear c10b0
        try clear c11
        try clear c11b0
        try clear p12
        try clear q12
        try clear hx12
        try clear c16
        try clear c18
        try clear c18b0
        try clear c18b1
        try clear hcz17_0
        try clear hcz17_1
        try clear hcz17_2
        try clear hcz17_3
        try clear hcz7_0
        try clear hcz7_1
        try clear hcz7_2
        try clear hcz7_3
        try clear hcz9_0
        try clear hcz9_1
        try clear hcz9_2
        try clear hcz9_3
        try clear hfz17_0
        try clear hfz17_1
        try clear hfz17_2
        try clear hfz17_3
        try clear hfz7_0
        try clear hfz7_1
        try clear hfz7_2
        try clear hfz7_3
        try clear hfz9_0
        try clear hfz9_1
        try clear hfz9_2
        try clear hfz9_3
        try clear p12
        try clear p2
        try clear q12
        obtain ⟨kq, x45_13, rfl, HA, HJ13, BK104, BK105, HB⟩ := hcut
        cases kq with
        | zero => exact absurd HA.out (by simp [ins_Decode.j1])
        | succ kj13 =>
         have H := HA.out
         clear HA
         simp only [ins_Decode.j1] at H
         by_cases c20 : x45_13 = true
         ·subst c20
          have H1 : (some (0, 0, 0, 0, 0, 9)) = some (r1, r2, r3, r4, r5, r6) := by rw [if_pos rfl] at H; exact H
          clear H
          have H := H1
          clear H1
          simp only [Option.some.injEq, Prod.mk.injEq] at H
          obtain ⟨rfl, rfl, rfl, rfl, rfl, rfl⟩ := H
          have hnb21 := NB104_105.out
          have hnc21 := NB105_104.out
          have hcz22_0 : wc.cell? ⟨gb104, 0, none⟩ = some (.int .i64 0) := (zC BK104.out 0).trans rfl
          have hcz22_1 : wc.cell? ⟨gb104, 1, none⟩ = some (.int .i64 0) := (zC BK104.out 1).trans rfl
          have hcz22_2 : wc.cell? ⟨gb104, 2, none⟩ = some (.int .i64 0) := (zC BK104.out 2).trans rfl
          have hcz22_3 : wc.cell? ⟨gb104, 3, none⟩ = some (.int .i64 0) := (zC BK104.out 3).trans rfl
          have hfz22_0 := zF BK104.out 0
          have hfz22_1 := zF BK104.out 1
          have hfz22_2 := zF BK104.out 2
          have hfz22_3 := zF BK104.out 3
          go_wp2
          refine bodyPost_ret (results_ctt rfl _ _ gb104 79 #[.int .i64 0, .int .i64 0, .int .i64 0, .int .i64 0] (0, 0) _ rfl (by (with_reducible repeat (first | refine zH ?_ _ | refine zI ?_ | refine zG ?_ _)); refine blk_put (cs := #[.int .i64 0, .int .i64 0, .int .i64 0, .int .i64 0]) ?_ 3 _ rfl; (with_reducible repeat (first | refine zH ?_ _ | refine zI ?_ | refine zG ?_ _)); refine blk_put (cs := #[.int .i64 0, .int .i64 0, .int .i64 0, .int .i64 0]) ?_ 2 _ rfl; (with_reducible repeat (first | refine zH ?_ _ | refine zI ?_ | refine zG ?_ _)); refine blk_put (cs := #[.int .i64 0, .int .i64 0, .int .i64 0, .int .i64 0]) ?_ 1 _ rfl; (with_reducible repeat (first | refine zH ?_ _ | refine zI ?_ | refine zG ?_ _)); refine blk_put (cs := #[.int .i64 0, .int .i64 0, .int .i64 0, .int .i64 0]) ?_ 0 _ rfl; (with_reducible repeat (first | refine zH ?_ _ | refine zI ?_ | refine zG ?_ _)); exact BK104.out) Tryd.underlying79 rfl (by kernel_rfl)) rfl ?_
          exact ⟨by first | rfl | (simp [errW_none, errW_some] <;> rfl) | (simp [*, errW_none, errW_some] <;> rfl), by repeat (first | exact HB.out | apply zA | apply zB | apply zD | refine zJ ?_ GE104.out | refine zJ ?_ GE105.out)⟩
         ·replace c20 := Bool.eq_false_iff.mpr c20
          subst c20
          have H1 : ((ins_shape_size.f kj13 t106).bind fun t108 => ((ins_shape_registers.f kj13 t106).bind fun t109 => (if t109 = 1 then (if 0 ≤ (wrap64 (a1 + 1)) then (if (wrap64 (a1 + 1)) < (a0.size : Int) then (ins_Decode.j2 kj13 a0 t106 (wrap64 (a1 + t108)) (wrap64 (bt a0 a1)) (wrap64 (bt a0 (wrap64 (a1 + 1)))) 0 0) else (none)) else (none)) else (if t109 = 2 then (if 0 ≤ (wrap64 (a1 + 1)) then (if (wrap64 (a1 + 1)) < (a0.size : Int) then (ins_Decode.j2 kj13 a0 t106 (wrap64 (a1 + t108)) (wrap64 (bt a0 a1)) (wrap64 ((bt a0 (wrap64 (a1 + 1))) / 16)) (wrap64 (Go.bits .and .u8 (bt a0 (wrap64 (a1 + 1))) 15)) 0) else (none)) else (none)) else (ins_Decode.j2 kj13 a0 t106 (wrap64 (a1 + t108)) (wrap64 (bt a0 a1)) 0 0 0))))) = some (r1, r2, r3, r4, r5, r6) := by rw [if_neg (show ¬ (false = true) by decide)] at H; exact H
          clear H
          have H := H1
          clear H1
          replace H := z8 H
          obtain ⟨t108, A230, H⟩ := H
          replace H : ((ins_shape_registers.f kj13 t106).bind fun t109 => (if t109 = 1 then (if 0 ≤ (wrap64 (a1 + 1)) then (if (wrap64 (a1 + 1)) < (a0.size : Int) then (ins_Decode.j2 kj13 a0 t106 (wrap64 (a1 + t108)) (wrap64 (bt a0 a1)) (wrap64 (bt a0 (wrap64 (a1 + 1)))) 0 0) else (none)) else (none)) else (if t109 = 2 then (if 0 ≤ (wrap64 (a1 + 1)) then (if (wrap64 (a1 + 1)) < (a0.size : Int) then (ins_Decode.j2 kj13 a0 t106 (wrap64 (a1 + t108)) (wrap64 (bt a0 a1)) (wrap64 ((bt a0 (wrap64 (a1 + 1))) / 16)) (wrap64 (Go.bits .and .u8 (bt a0 (wrap64 (a1 + 1))) 15)) 0) else (none)) else (none)) else (ins_Decode.j2 kj13 a0 t106 (wrap64 (a1 + t108)) (wrap64 (bt a0 a1)) 0 0 0)))) = some (r1, r2, r3, r4, r5, r6) := H
          have A23 := z4 A230
          clear A230
          replace H := z8 H
          obtain ⟨t109, A240, H⟩ := H
          replace H : (if t109 = 1 then (if 0 ≤ (wrap64 (a1 + 1)) then (if (wrap64 (a1 + 1)) < (a0.size : Int) then (ins_Decode.j2 kj13 a0 t106 (wrap64 (a1 + t108)) (wrap64 (bt a0 a1)) (wrap64 (bt a0 (wrap64 (a1 + 1)))) 0 0) else (none)) else (none)) else (if t109 = 2 then (if 0 ≤ (wrap64 (a1 + 1)) then (if (wrap64 (a1 + 1)) < (a0.size : Int) then (ins_Decode.j2 kj13 a0 t106 (wrap64 (a1 + t108)) (wrap64 (bt a0 a1)) (wrap64 ((bt a0 (wrap64 (a1 + 1))) / 16)) (wrap64 (Go.bits .and .u8 (bt a0 (wrap64 (a1 + 1))) 15)) 0) else (none)) else (none)) else (ins_Decode.j2 kj13 a0 t106 (wrap64 (a1 + t108)) (wrap64 (bt a0 a1)) 0 0 0))) = some (r1, r2, r3, r4, r5, r6) := H
          have A24 := z4 A240
          clear A240
          have HC25 := z4 H
          clear H
          go_upto_block 1 with (first | ((with_reducible refine gate_callee (f := 77) rfl ?_); refine goesL_ (some 49) rfl rfl Tryd.func77 (by kernel_rfl) rfl #[.int .u8 t106] rfl (by (try simp only [z9, List.map_cons, List.map_nil]); first | done | rfl | (simp only [z9a, z9b]; rfl)) ?_; (with_reducible refine (ins_shape_size.calls kj13 t106 t108 _ A23.out).mono ?_); rintro e w' ⟨rfl, ⟨nd, rfl⟩⟩; refine ⟨_, rfl, ?_⟩) | ((with_reducible refine gate_callee (f := 91) rfl ?_); refine goesL_ (some 52) rfl rfl Tryd.func91 (by kernel_rfl) rfl #[.int .u8 t106] rfl (by (try simp only [z9, List.map_cons, List.map_nil]); first | done | rfl | (simp only [z9a, z9b]; rfl)) ?_; (with_reducible refine (ins_shape_registers.calls kj13 t106 t109 _ A24.out).mono ?_); rintro e w' ⟨rfl, ⟨nd, rfl⟩⟩; refine ⟨_, rfl, ?_⟩))
          (try simp only [Act.put, z1, z2, z3])
          go_cut [] (fun wc => ∃ (kq : Nat) (x106001_24 : Int) (x106002_24 : Int), Aside0 (ins_Decode.j2 kq a0 t106 (wrap64 (a1 + t108)) (wrap64 (bt a0 a1)) x106001_24 x106002_24 0 = some (r1, r2, r3, r4, r5, r6)) ∧ Aside0 (kq ≤ kj13) ∧ Aside0 (wc.heap[gb104]? = some (.cells #[.int .i64 0, .int .i64 0, .int .i64 0, .int .i64 0] 79 (0, 0))) ∧ Aside0 (wc.heap[gb105]? = some (.cells #[.int .i64 (wrap64 (bt a0 a1)), .int .i64 x106001_24, .int .i64 x106002_24, .int .i64 0] 79 (0, 0))) ∧ Aside0 (Below w.heap.size w wc))
          case first =>
           have H := HC25.out
           clear HC25
           by_cases c26 : t109 = 1
           ·rw [if_pos c26] at H
            have c26b0 : (t109 == 1) = true := z5 c26
            have c26b1 : (t109 != 1) = false := z6 c26
            clear c26
            (first | rw [c26b0] | (simp only [i64_w, i32_w]; rw [c26b0]) | skip)
            obtain ⟨ji27, hji27⟩ : ∃ j_ : Int, (wrap64 (a1 + 1)) = j_ := ⟨_, rfl⟩
            replace H : (if 0 ≤ (ji27) then (if (ji27) < (a0.size : Int) then (ins_Decode.j2 kj13 a0 t106 (wrap64 (a1 + t108)) (wrap64 (bt a0 a1)) (wrap64 (bt a0 (ji27))) 0 0) else (none)) else (none)) = some (r1, r2, r3, r4, r5, r6) := by first | (rw [hji27] at H; exact H) | (simp only [hji27] at H ⊢; exact H)
            have hji27w : (IntKind.i64.wrap (a1 + 1)) = ji27 := (i64_w _).trans hji27
            by_cases c28 : 0 ≤ (ji27)
            ·rw [if_pos c28] at H
             have c28b0 : decide (0 ≤ (ji27)) = true := decide_eq_true c28
             clear c28
             by_cases c29 : (ji27) < (a0.size : Int)
             ·rw [if_pos c29] at H
              have c29b0 : decide ((ji27) < (a0.size : Int)) = true := decide_eq_true c29
              clear c29
              have H' := z4 H
              clear H
              have p30 : 0 ≤ ((ji27) : Int) := of_decide_eq_true (by first | (with_reducible assumption) | assumption)
              have q30 : (ji27) < (a0.size : Int) := of_decide_eq_true (by first | (with_reducible assumption) | assumption)
              have hx30 := bt_at a0 (ji27)
              replace p30 := eq_true p30
              replace q30 := eq_true q30
              have hnb31 := NB105_104.out
              have hnc31 := NB104_105.out
              have hcz32_0 : wc.cell? ⟨gb105, 0, none⟩ = some (.int .i64 (wrap64 (bt a0 a1))) := (zC BK105.out 0).trans rfl
              have hcz32_1 : wc.cell? ⟨gb105, 1, none⟩ = some (.int .i64 0) := (zC BK105.out 1).trans rfl
              have hcz32_2 : wc.cell? ⟨gb105, 2, none⟩ = some (.int .i64 0) := (zC BK105.out 2).trans rfl
              have hcz32_3 : wc.cell? ⟨gb105, 3, none⟩ = some (.int .i64 0) := (zC BK105.out 3).trans rfl
              have hfz32_0 := zF BK105.out 0
              have hfz32_1 := zF BK105.out 1
              have hfz32_2 := zF BK105.out 2
              have hfz32_3 := zF BK105.out 3
              go_wp2
              go_meet
              case rel => exact ⟨_, (wrap64 (bt a0 (ji27))), (0), H', ⟨by have := HJ2.out; have := HJ13.out; first | omega | exact Nat.le_refl _⟩, ⟨by (with_reducible repeat (first | refine zH ?_ _ | refine zI ?_ | refine zG ?_ _)); refine blk_far ?_ NB104_105.out _; (with_reducible repeat (first | refine zH ?_ _ | refine zI ?_ | refine zG ?_ _)); exact BK104.out⟩, ⟨by (with_reducible repeat (first | refine zH ?_ _ | refine zI ?_ | refine zG ?_ _)); refine blk_put (cs := #[.int .i64 (wrap64 (bt a0 a1)), .int .i64 0, .int .i64 0, .int .i64 0]) ?_ 1 _ rfl; (with_reducible repeat (first | refine zH ?_ _ | refine zI ?_ | refine zG ?_ _)); exact BK105.out⟩, ⟨by repeat (first | exact HB.out | apply zA | apply zB | apply zD | refine zJ ?_ GE104.out | refine zJ ?_ GE105.out)⟩⟩
             ·rw [if_neg c29] at H
              exact absurd H (by simp)
            ·rw [if_neg c28] at H
             exact absurd H (by simp)
           ·rw [if_neg c26] at H
            have c26b0 : (t109 == 1) = false := z7 c26
            have c26b1 : (t109 != 1) = true := bne_iff_ne.mpr c26
            (first | rw [c26b0] | (simp only [i64_w, i32_w]; rw [c26b0]) | skip)
            by_cases c33 : t109 = 2
            ·rw [if_pos c33] at H
             have c33b0 : (t109 == 2) = true := z5 c33
             have c33b1 : (t109 != 2) = false := z6 c33
             clear c33
             obtain ⟨ji34, hji34⟩ : ∃ j_ : Int, (wrap64 (a1 + 1)) = j_ := ⟨_, rfl⟩
             replace H : (if 0 ≤ (ji34) then (if (ji34) < (a0.size : Int) then (ins_Decode.j2 kj13 a0 t106 (wrap64 (a1 + t108)) (wrap64 (bt a0 a1)) (wrap64 ((bt a0 (ji34)) / 16)) (wrap64 (Go.bits .and .u8 (bt a0 (ji34)) 15)) 0) else (none)) else (none)) = some (r1, r2, r3, r4, r5, r6) := by first | (rw [hji34] at H; exact H) | (simp only [hji34] at H ⊢; exact H)
             have hji34w : (IntKind.i64.wrap (a1 + 1)) = ji34 := (i64_w _).trans hji34
             by_cases c35 : 0 ≤ (ji34)
             ·rw [if_pos c35] at H
              have c35b0 : decide (0 ≤ (ji34)) = true := decide_eq_true c35
              clear c35
              by_cases c36 : (ji34) < (a0.size : Int)
              ·rw [if_pos c36] at H
               have c36b0 : decide ((ji34) < (a0.size : Int)) = true := decide_eq_true c36
               clear c36
               have H' := z4 H
               clear H
               try go_wp2
               have o_BK104 := BK104
               have n0_ := z4 (zI BK104.out)
               have o_BK105 := BK105
               have n1_ := z4 (zI BK105.out)
               have o_HB := HB
               have n2_ := z4 (zD HB.out)
               clear BK104
               clear BK105
               clear HB
               have BK104 := n0_
               have BK105 := n1_
               have HB := n2_
               clear n0_ n1_ n2_
               have p37 : 0 ≤ ((ji34) : Int) := of_decide_eq_true (by first | (with_reducible assumption) | assumption)
               have q37 : (ji34) < (a0.size : Int) := of_decide_eq_true (by first | (with_reducible assumption) | assumption)
               have hx37 := bt_at a0 (ji34)
               replace p37 := eq_true p37
               replace q37 := eq_true q37
               have p38 : 0 ≤ ((ji34) : Int) := of_decide_eq_true (by first | (with_reducible assumption) | assumption)
               have q38 : (ji34) < (a0.size : Int) := of_decide_eq_true (by first | (with_reducible assumption) | assumption)
               have hx38 := bt_at a0 (ji34)
               replace p38 := eq_true p38
               replace q38 := eq_true q38
               refine start_ (n := 16) (S := fun w' => True) (ds := []) #[false, false, false, false, false, false, false, false, false, false, false, false, false, false, false, false] (by kernel_rfl) rfl rfl trivial (fun hHeld => ?_); refine with_tabW ins_Decode.tab14 ins_Decode.bits14 (fun HT_ HW_ => ?_)
               first | (generalize hwd_ : wc.drewN _ = w39 at hHeld ⊢; obtain ⟨nN_, hn_⟩ : ∃ n_, wc.drewN n_ = w39 := ⟨_, hwd_⟩; clear BK104 BK105 HB; have BK104 := z4 (zH o_BK104.out nN_); rw [hn_] at BK104; have BK105 := z4 (zH o_BK105.out nN_); rw [hn_] at BK105; have HB := z4 (zB o_HB.out nN_); rw [hn_] at HB; clear hn_ hwd_) | generalize wc.drew = w39 at BK104 BK105 HB hHeld ⊢
               refine pure_ (i := 0) (N := some 63) (v := ?_) (a' := ?_) #[true, false, false, false, false, false, false, false, false, false, false, false, false, false, false, false] rfl rfl (any_of HT_.out (by kernel_rfl)) (fun _ _ _ h => h) (Or.inl ⟨by rfl, ?_⟩) ?_ ?_
               rotate_left
               ·intro w'
                go_simp
                with_reducible rfl
               rotate_left
               ·simp only [Act.put, z1, z2, z3, i64_w, i32_w]
                rfl
               refine pure_ (i := 1) (N := some 64) (v := ?_) (a' := ?_) #[true, true, false, false, false, false, false, false, false, false, false, false, false, false, false, false] rfl rfl (any_of HT_.out (by kernel_rfl)) (fun _ _ _ h => h) (Or.inl ⟨by rfl, ?_⟩) ?_ ?_
               rotate_left
               ·intro w'
                go_simp
                with_reducible rfl
               rotate_left
               ·simp only [Act.put, z1, z2, z3, i64_w, i32_w]
                rfl
               refine pure_ (i := 2) (N := some 65) (v := ?_) (a' := ?_) #[true, true, true, false, false, false, false, false, false, false, false, false, false, false, false, false] rfl rfl (any_of HT_.out (by kernel_rfl)) (fun _ _ _ h => h) (Or.inl ⟨by rfl, ?_⟩) ?_ ?_
               rotate_left
               ·intro w'
                go_simp
                with_reducible rfl
               rotate_left
               ·simp only [Act.put, z1, z2, z3, i64_w, i32_w]
                rfl
               refine pure_ (i := 6) (N := some 69) (v := ?_) (a' := ?_) #[true, true, true, false, false, false, true, false, false, false, false, false, false, false, false, false] rfl rfl (any_of HT_.out (by kernel_rfl)) (fun _ _ _ h => h) (Or.inl ⟨by rfl, ?_⟩) ?_ ?_
               rotate_left
               ·intro w'
                go_simp
                with_reducible rfl
               rotate_left
               ·simp only [Act.put, z1, z2, z3, i64_w, i32_w]
                rfl
               refine pure_ (i := 7) (N := some 70) (v := ?_) (a' := ?_) #[true, true, true, false, false, false, true, true, false, false, false, false, false, false, false, false] rfl rfl (any_of HT_.out (by kernel_rfl)) (fun _ _ _ h => h) (Or.inl ⟨by rfl, ?_⟩) ?_ ?_
               rotate_left
               ·intro w'
                go_simp
                with_reducible rfl
               rotate_left
               ·simp only [Act.put, z1, z2, z3, i64_w, i32_w]
                rfl
               refine pure_ (i := 8) (N := some 71) (v := ?_) (a' := ?_) #[true, true, true, false, false, false, true, true, true, false, false, false, false, false, false, false] rfl rfl (any_of HT_.out (by kernel_rfl)) (fun _ _ _ h => h) (Or.inl ⟨by rfl, ?_⟩) ?_ ?_
               rotate_left
               ·intro w'
                go_simp
                with_reducible rfl
               rotate_left
               ·simp only [Act.put, z1, z2, z3, i64_w, i32_w]
                rfl
               refine take_ (i := 3) (N := some 66) (v := ?_) (a' := ?_) #[true, true, true, true, false, false, true, true, true, false, false, false, false, false, false, false] rfl rfl (take_ofW HT_.out HW_.out (by kernel_rfl)) (fun _ _ _ h => h) (Or.inl ⟨by rfl, ?_⟩) hHeld ?_ ?_
               rotate_left
               ·intro w' _
                go_simp
                with_reducible rfl
               rotate_left
               ·simp only [Act.put, z1, z2, z3, i64_w, i32_w]
                rfl
               refine pure_ (i := 4) (N := some 67) (v := ?_) (a' := ?_) #[true, true, true, true, true, false, true, true, true, false, false, false, false, false, false, false] rfl rfl (any_of HT_.out (by kernel_rfl)) (fun _ _ _ h => h) (Or.inl ⟨by rfl, ?_⟩) ?_ ?_
               rotate_left
               ·intro w'
                go_simp
                with_reducible rfl
               rotate_left
               ·simp only [Act.put, z1, z2, z3, i64_w, i32_w]
                rfl
               refine pure_ (i := 5) (N := some 68) (v := ?_) (a' := ?_) #[true, true, true, true, true, true, true, true, true, false, false, false, false, false, false, false] rfl rfl (any_of HT_.out (by kernel_rfl)) (fun _ _ _ h => h) (Or.inl ⟨by rfl, ?_⟩) ?_ ?_
               rotate_left
               ·intro w'
                go_simp
                with_reducible rfl
               rotate_left
               ·simp only [Act.put, z1, z2, z3, i64_w, i32_w]
                rfl
               refine pure_ (i := 12) (N := some 75) (v := ?_) (a' := ?_) #[true, true, true, true, true, true, true, true, true, false, false, false, true, false, false, false] rfl rfl (any_of HT_.out (by kernel_rfl)) (fun _ _ _ h => h) (Or.inl ⟨by rfl, ?_⟩) ?_ ?_
               rotate_left
               ·intro w'
                go_simp
                with_reducible rfl
               rotate_left
               ·simp only [Act.put, z1, z2, z3, i64_w, i32_w]
                rfl
               refine take_ (i := 9) (N := some 72) (v := ?_) (a' := ?_) #[true, true, true, true, true, true, true, true, true, true, false, false, true, false, false, false] rfl rfl (take_ofW HT_.out HW_.out (by kernel_rfl)) (fun _ _ _ h => h) (Or.inl ⟨by rfl, ?_⟩) hHeld ?_ ?_
               rotate_left
               ·intro w' _
                go_simp
                with_reducible rfl
               rotate_left
               ·simp only [Act.put, z1, z2, z3, i64_w, i32_w]
                rfl
               refine pure_ (i := 10) (N := some 73) (v := ?_) (a' := ?_) #[true, true, true, true, true, true, true, true, true, true, true, false, true, false, false, false] rfl rfl (any_of HT_.out (by kernel_rfl)) (fun _ _ _ h => h) (Or.inl ⟨by rfl, ?_⟩) ?_ ?_
               rotate_left
               ·intro w'
                go_simp
                with_reducible rfl
               rotate_left
               ·simp only [Act.put, z1, z2, z3, i64_w, i32_w]
                rfl
               refine pure_ (i := 11) (N := some 74) (v := ?_) (a' := ?_) #[true, true, true, true, true, true, true, true, true, true, true, true, true, false, false, false] rfl rfl (any_of HT_.out (by kernel_rfl)) (fun _ _ _ h => h) (Or.inl ⟨by rfl, ?_⟩) ?_ ?_
               rotate_left
               ·intro w'
                go_simp
                with_reducible rfl
               rotate_left
               ·simp only [Act.put, z1, z2, z3, i64_w, i32_w]
                rfl
               refine one_ (i := 13) (N := none) #[true, true, true, true, true, true, true, true, true, true, true, true, true, true, false, false] rfl rfl (one_of HT_.out (by kernel_rfl)) (by decide) (fun K hK => ?_)
               have hs40 : w39.cell? ⟨gb105, 1, none⟩ = some (.int .i64 0) := (zC BK105.out 1).trans rfl
               have hfs40 := zF BK105.out 1
               have hns40_0 := NB104_105.out
               have hms40_0 := NB105_104.out
               refine skip_ (w1 := ?_) (by rfl) rfl ?_ ?_
               rotate_left
               ·go_simp
                rfl
               refine hK.out _ _ trivial (fun hHeld => ?_)
               clear hK K
               refine pure_ (i := 14) (N := some 76) (v := ?_) (a' := ?_) #[true, true, true, true, true, true, true, true, true, true, true, true, true, true, true, false] rfl rfl (any_of HT_.out (by kernel_rfl)) (fun _ _ _ h => h) (Or.inl ⟨by rfl, ?_⟩) ?_ ?_
               rotate_left
               ·intro w'
                go_simp
                with_reducible rfl
               rotate_left
               ·simp only [Act.put, z1, z2, z3, i64_w, i32_w]
                rfl
               refine one_ (i := 15) (N := none) #[true, true, true, true, true, true, true, true, true, true, true, true, true, true, true, true] rfl rfl (one_of HT_.out (by kernel_rfl)) (by decide) (fun K hK => ?_)
               have hs41 : w39.cell? ⟨gb105, 2, none⟩ = some (.int .i64 0) := (zC BK105.out 2).trans rfl
               have hfs41 := zF BK105.out 2
               have hns41_0 := NB104_105.out
               have hms41_0 := NB105_104.out
               refine skip_at (ad := ⟨gb105, 2, none⟩) (old := .int .i64 0) (v := ?_) (by rfl) rfl (fun W' hc' hf' => ?_) ?_ ?_ ?_
               rotate_left
               ·go_simp
                rfl
               ·go_simp
               ·go_simp
               refine hK.out _ _ trivial (fun hHeld => ?_)
               clear hK K
               refine done_ (done_of HT_.out (by kernel_rfl)) ?_
               try go_wp2
               go_meet
               case rel => exact ⟨_, (wrap64 ((bt a0 (ji34)) / 16)), (wrap64 (Go.bits .and .u8 (bt a0 (ji34)) 15)), H', ⟨by have := HJ2.out; have := HJ13.out; first | omega | exact Nat.le_refl _⟩, ⟨by (with_reducible repeat (first | refine zH ?_ _ | refine zI ?_ | refine zG ?_ _)); refine blk_far ?_ NB104_105.out _; (with_reducible repeat (first | refine zH ?_ _ | refine zI ?_ | refine zG ?_ _)); refine blk_far ?_ NB104_105.out _; (with_reducible repeat (first | refine zH ?_ _ | refine zI ?_ | refine zG ?_ _)); exact BK104.out⟩, ⟨by (with_reducible repeat (first | refine zH ?_ _ | refine zI ?_ | refine zG ?_ _)); refine blk_put (cs := #[.int .i64 (wrap64 (bt a0 a1)), .int .i64 (wrap64 ((bt a0 (ji34)) / 16)), .int .i64 0, .int .i64 0]) ?_ 2 _ rfl; (with_reducible repeat (first | refine zH ?_ _ | refine zI ?_ | refine zG ?_ _)); refine blk_put (cs := #[.int .i64 (wrap64 (bt a0 a1)), .int .i64 0, .int .i64 0, .int .i64 0]) ?_ 1 _ rfl; (with_reducible repeat (first | refine zH ?_ _ | refine zI ?_ | refine zG ?_ _)); exact BK105.out⟩, ⟨by repeat (first | exact HB.out | apply zA | apply zB | apply zD | refine zJ ?_ GE104.out | refine zJ ?_ GE105.out)⟩⟩
              ·rw [if_neg c36] at H
               exact absurd H (by simp)
             ·rw [if_neg c35] at H
              exact absurd H (by simp)
            ·rw [if_neg c33] at H
             have c33b0 : (t109 == 2) = false := z7 c33
             have c33b1 : (t109 != 2) = true := bne_iff_ne.mpr c33
             have H' := z4 H
             clear H
             go_wp2
             go_meet
             case rel => exact ⟨_, (0), (0), H', ⟨by have := HJ2.out; have := HJ13.out; first | omega | exact Nat.le_refl _⟩, ⟨by (with_reducible repeat (first | refine zH ?_ _ | refine zI ?_ | refine zG ?_ _)); exact BK104.out⟩, ⟨by (with_reducible repeat (first | refine zH ?_ _ | refine zI ?_ | refine zG ?_ _)); exact BK105.out⟩, ⟨by repeat (first | exact HB.out | apply zA | apply zB | apply zD | refine zJ ?_ GE104.out | refine zJ ?_ GE105.out)⟩⟩
          case rest =>
           clear HC25
           try clear c1
           try clear p1
           try clear q1
           try clear hx1
           try clear c2
           try clear p2
           try clear c3
           try clear p3
           try clear q3
           try clear hx3
           try clear c5
           try clear c5b0
           try clear c6
           try clear p6
           try clear c7
           try clear c8
           try clear c8b0
           try clear c8b1
           try clear c9
           try clear c10
           try clear c10b0
           try clear c11
           try clear c11b0
           try clear p12
           try clear q12
           try clear hx12
           try clear c16
           try clear c18
           try clear c18b0
           try clear c18b1
           try clear c20
           try clear c21
           try clear c26
           try clear c26b0
           try clear c26b1
           try clear c28
           try clear c28b0
           try clear c29
           try clear c29b0
           try clear p30
           try clear q30
           try clear hx30
           try clear c31
           try clear c33
           try clear c33b0
           try clear c33b1
           try clear c35
           try clear c35b0
           try clear c36
           try clear c36b0
           try clear p37
           try clear q37
           try clear hx37
           try clear p38
           try clear q38
           try clear hx38
           try clear hcz17_0
           try clear hcz17_1
           try clear hcz17_2
           try clear hcz17_3
           try clear hcz22_0
           try clear hcz22_1
           try clear hcz22_2
           try clear hcz22_3
           try clear hcz32_0
           try clear hcz32_1
           try clear hcz32_2
           try clear hcz32_3
           try clear hcz7_0
           try clear hcz7_1
           try clear hcz7_2
           try clear hcz7_3
           try clear hcz9_0
           try clear hcz9_1
           try clear hcz9_2
           try clear hcz9_3
           try clear hfz17_0
           try clear hfz17_1
           try clear hfz17_2
           try clear hfz17_3
           try clear hfz22_0
           try clear hfz22_1
           try clear hfz22_2
           try clear hfz22_3
           try clear hfz32_0
           try clear hfz32_1
           try clear hfz32_2
           try clear hfz32_3
           try clear hfz7_0
           try clear hfz7_1
           try clear hfz7_2
           try clear hfz7_3
           try clear hfz9_0
           try clear hfz9_1
           try clear hfz9_2
           try clear hfz9_3
           try clear p1
           try clear p12
           try clear p2
           try clear p30
           try clear p37
           try clear p38
           try clear p6
           try clear q1
           try clear q12
           try clear q30
           try clear q37
           try clear q38
           obtain ⟨kq, x106001_24, x106002_24, HA, HJ24, BK104, BK105, HB⟩ := hcut
           cases kq with
           | zero => exact absurd HA.out (by simp [ins_Decode.j2])
           | succ kj24 =>
            have H := HA.out
            clear HA
            simp only [ins_Decode.j2] at H
            replace H := z8 H
            obtain ⟨t110, A420, H⟩ := H
            replace H : (if t110 > 0 then (if 0 ≤ (wrap64 ((wrap64 (a1 + t108)) - t110)) then (if (wrap64 ((wrap64 (a1 + t108)) - t110)) ≤ (wrap64 (a1 + t108)) then (if (wrap64 (a1 + t108)) ≤ (a0.size : Int) then ((word_Number.f kj24 (a0.extract ((wrap64 ((wrap64 (a1 + t108)) - t110)) : Int).toNat ((wrap64 (a1 + t108)) : Int).toNat)).bind fun bt111 => (ins_Decode.j3 kj24 t106 (wrap64 (a1 + t108)) (wrap64 (bt a0 a1)) x106001_24 x106002_24 bt111.1)) else (none)) else (none)) else (none)) else (ins_Decode.j3 kj24 t106 (wrap64 (a1 + t108)) (wrap64 (bt a0 a1)) x106001_24 x106002_24 0)) = some (r1, r2, r3, r4, r5, r6) := H
            have A42 := z4 A420
            clear A420
            have HC43 := z4 H
            clear H
            go_upto_if 80 with (first | ((with_reducible refine gate_callee (f := 92) rfl ?_); refine goesL_ (some 78) rfl rfl Tryd.func92 (by kernel_rfl) rfl #[.int .u8 t106] rfl (by (try simp only [z9, List.map_cons, List.map_nil]); first | done | rfl | (simp only [z9a, z9b]; rfl)) ?_; (with_reducible refine (ins_shape_width.calls kj24 t106 t110 _ A42.out).mono ?_); rintro e w' ⟨rfl, ⟨nd, rfl⟩⟩; refine ⟨_, rfl, ?_⟩))
            (try simp only [Act.put, z1, z2, z3])
            go_cut [] (fun wc => ∃ (kq : Nat) (x106003_42 : Int), Aside0 (ins_Decode.j3 kq t106 (wrap64 (a1 + t108)) (wrap64 (bt a0 a1)) x106001_24 x106002_24 x106003_42 = some (r1, r2, r3, r4, r5, r6)) ∧ Aside0 (kq ≤ kj24) ∧ Aside0 (wc.heap[gb104]? = some (.cells #[.int .i64 0, .int .i64 0, .int .i64 0, .int .i64 0] 79 (0, 0))) ∧ Aside0 (wc.heap[gb105]? = some (.cells #[.int .i64 (wrap64 (bt a0 a1)), .int .i64 x106001_24, .int .i64 x106002_24, .int .i64 x106003_42] 79 (0, 0))) ∧ Aside0 (Below w.heap.size w wc))
            case first =>
             have H := HC43.out
             clear HC43
             by_cases c44 : t110 > 0
             ·rw [if_pos c44] at H
              have c44b0 : decide (0 < t110) = true := decide_eq_true c44
              clear c44
              (first | rw [c44b0] | (simp only [i64_w, i32_w]; rw [c44b0]) | skip)
              obtain ⟨ji45, hji45⟩ : ∃ j_ : Int, (wrap64 ((wrap64 (a1 + t108)) - t110)) = j_ := ⟨_, rfl⟩
              replace H : (if 0 ≤ (ji45) then (if (ji45) ≤ (wrap64 (a1 + t108)) then (if (wrap64 (a1 + t108)) ≤ (a0.size : Int) then ((word_Number.f kj24 (a0.extract ((ji45) : Int).toNat ((wrap64 (a1 + t108)) : Int).toNat)).bind fun bt111 => (ins_Decode.j3 kj24 t106 (wrap64 (a1 + t108)) (wrap64 (bt a0 a1)) x106001_24 x106002_24 bt111.1)) else (none)) else (none)) else (none)) = some (r1, r2, r3, r4, r5, r6) := by first | (rw [hji45] at H; exact H) | (simp only [hji45] at H ⊢; exact H)
              have hji45w : (IntKind.i64.wrap ((wrap64 (a1 + t108)) - t110)) = ji45 := (i64_w _).trans hji45
              by_cases c46 : 0 ≤ (ji45)
              ·rw [if_pos c46] at H
               have c46b0 := eq_true c46
               have c46b1 : decide (0 ≤ (ji45)) = true := decide_eq_true c46
               clear c46
               by_cases c47 : (ji45) ≤ (wrap64 (a1 + t108))
               ·rw [if_pos c47] at H
                have c47b0 := eq_true c47
                have c47b1 : decide ((ji45) ≤ (wrap64 (a1 + t108))) = true := decide_eq_true c47
                by_cases c48 : (wrap64 (a1 + t108)) ≤ (a0.size : Int)
                ·rw [if_pos c48] at H
                 have c48b0 := eq_true c48
                 have c48b1 : decide ((wrap64 (a1 + t108)) ≤ (a0.size : Int)) = true := decide_eq_true c48
                 replace H := z8 H
                 obtain ⟨⟨t111, t112⟩, A490, H⟩ := H
                 replace H : (ins_Decode.j3 kj24 t106 (wrap64 (a1 + t108)) (wrap64 (bt a0 a1)) x106001_24 x106002_24 t111) = some (r1, r2, r3, r4, r5, r6) := H
                 have A49 := z4 A490
                 clear A490
                 have H' := z4 H
                 clear H
                 go_wp2_with (first | ((with_reducible refine gate_callee (f := 79) rfl ?_); refine goesL_ (some 88) rfl rfl Tryd.func79 (by kernel_rfl) rfl #[.string (a0.extract ((ji45) : Int).toNat ((wrap64 (a1 + t108)) : Int).toNat)] rfl (by (try simp only [z9, List.map_cons, List.map_nil]); first | done | (simp only [hji45]; rfl) | rfl | (simp only [z9a, z9b]; rfl)) ?_; (with_reducible refine (word_Number.calls kj24 (a0.extract ((ji45) : Int).toNat ((wrap64 (a1 + t108)) : Int).toNat) t111 t112 _ A49.out).mono ?_); rintro e w' ⟨rfl, ⟨nd, rfl⟩⟩; refine ⟨_, rfl, ?_⟩; (try (rw [drewN_self wc]; generalize hq_ : World.drewN wc _ = wc; have n0_ : Aside0 (wc.heap[gb104]? = some (.cells #[.int .i64 0, .int .i64 0, .int .i64 0, .int .i64 0] 79 (0, 0))) := ⟨by rw [← hq_]; exact (by (with_reducible repeat (first | refine zH ?_ _ | refine zI ?_ | refine zG ?_ _)); exact BK104.out)⟩; have n1_ : Aside0 (wc.heap[gb105]? = some (.cells #[.int .i64 (wrap64 (bt a0 a1)), .int .i64 x106001_24, .int .i64 x106002_24, .int .i64 0] 79 (0, 0))) := ⟨by rw [← hq_]; exact (by (with_reducible repeat (first | refine zH ?_ _ | refine zI ?_ | refine zG ?_ _)); exact BK105.out)⟩; have n2_ : Aside0 (Below w.heap.size w wc) := ⟨by rw [← hq_]; exact (by repeat (first | exact HB.out | apply zA | apply zB | apply zD | refine zJ ?_ GE104.out | refine zJ ?_ GE105.out))⟩; clear BK104 BK105 HB hq_; have BK104 := n0_; have BK105 := n1_; have HB := n2_; clear n0_ n1_ n2_; have hcq104_0 : wc.cell? ⟨gb104, 0, none⟩ = some (.int .i64 0) := (zC BK104.out 0).trans rfl; have hfq104_0 := zF BK104.out 0; have hcq104_1 : wc.cell? ⟨gb104, 1, none⟩ = some (.int .i64 0) := (zC BK104.out 1).trans rfl; have hfq104_1 := zF BK104.out 1; have hcq104_2 : wc.cell? ⟨gb104, 2, none⟩ = some (.int .i64 0) := (zC BK104.out 2).trans rfl; have hfq104_2 := zF BK104.out 2; have hcq104_3 : wc.cell? ⟨gb104, 3, none⟩ = some (.int .i64 0) := (zC BK104.out 3).trans rfl; have hfq104_3 := zF BK104.out 3; have hcq105_0 : wc.cell? ⟨gb105, 0, none⟩ = some (.int .i64 (wrap64 (bt a0 a1))) := (zC BK105.out 0).trans rfl; have hfq105_0 := zF BK105.out 0; have hcq105_1 : wc.cell? ⟨gb105, 1, none⟩ = some (.int .i64 x106001_24) := (zC BK105.out 1).trans rfl; have hfq105_1 := zF BK105.out 1; have hcq105_2 : wc.cell? ⟨gb105, 2, none⟩ = some (.int .i64 x106002_24) := (zC BK105.out 2).trans rfl; have hfq105_2 := zF BK105.out 2; have hcq105_3 : wc.cell? ⟨gb105, 3, none⟩ = some (.int .i64 0) := (zC BK105.out 3).trans rfl; have hfq105_3 := zF BK105.out 3)); have hnb50 := NB105_104.out; have hnc50 := NB104_105.out; have hcz51_0 : wc.cell? ⟨gb105, 0, none⟩ = some (.int .i64 (wrap64 (bt a0 a1))) := (zC BK105.out 0).trans rfl; have hcz51_1 : wc.cell? ⟨gb105, 1, none⟩ = some (.int .i64 x106001_24) := (zC BK105.out 1).trans rfl; have hcz51_2 : wc.cell? ⟨gb105, 2, none⟩ = some (.int .i64 x106002_24) := (zC BK105.out 2).trans rfl; have hcz51_3 : wc.cell? ⟨gb105, 3, none⟩ = some (.int .i64 0) := (zC BK105.out 3).trans rfl; have hfz51_0 := zF BK105.out 0; have hfz51_1 := zF BK105.out 1; have hfz51_2 := zF BK105.out 2; have hfz51_3 := zF BK105.out 3))
                 go_meet
                 case rel => exact ⟨_, (t111), H', ⟨by have := HJ2.out; have := HJ13.out; have := HJ24.out; first | omega | exact Nat.le_refl _⟩, ⟨by (with_reducible repeat (first | refine zH ?_ _ | refine zI ?_ | refine zG ?_ _)); refine blk_far ?_ NB104_105.out _; (with_reducible repeat (first | refine zH ?_ _ | refine zI ?_ | refine zG ?_ _)); exact BK104.out⟩, ⟨by (with_reducible repeat (first | refine zH ?_ _ | refine zI ?_ | refine zG ?_ _)); refine blk_put (cs := #[.int .i64 (wrap64 (bt a0 a1)), .int .i64 x106001_24, .int .i64 x106002_24, .int .i64 0]) ?_ 3 _ rfl; (with_reducible repeat (first | refine zH ?_ _ | refine zI ?_ | refine zG ?_ _)); exact BK105.out⟩, ⟨by repeat (first | exact HB.out | apply zA | apply zB | apply zD | refine zJ ?_ GE104.out | refine zJ ?_ GE105.out)⟩⟩
                ·rw [if_neg c48] at H
                 exact absurd H (by simp)
               ·rw [if_neg c47] at H
                exact absurd H (by simp)
              ·rw [if_neg c46] at H
               exact absurd H (by simp)
             ·rw [if_neg c44] at H
              have c44b0 : decide (0 < t110) = false := decide_eq_false c44
              clear c44
              (first | rw [c44b0] | (simp only [i64_w, i32_w]; rw [c44b0]) | skip)
              have H' := z4 H
              clear H
              go_wp2
              go_meet
              case rel => exact ⟨_, (0), H', ⟨by have := HJ2.out; have := HJ13.out; have := HJ24.out; first | omega | exact Nat.le_refl _⟩, ⟨by (with_reducible repeat (first | refine zH ?_ _ | refine zI ?_ | refine zG ?_ _)); exact BK104.out⟩, ⟨by (with_reducible repeat (first | refine zH ?_ _ | refine zI ?_ | refine zG ?_ _)); exact BK105.out⟩, ⟨by repeat (first | exact HB.out | apply zA | apply zB | apply zD | refine zJ ?_ GE104.out | refine zJ ?_ GE105.out)⟩⟩
            case rest =>
             clear HC43
             try clear c1
             try clear p1
             try clear q1
             try clear hx1
             try clear c2
             try clear p2
             try clear c3
             try clear p3
             try clear q3
             try clear hx3
             try clear c4
             try clear c5
             try clear c5b0
             try clear c6
             try clear p6
             try clear c7
             try clear c8
             try clear c8b0
             try clear c8b1
             try clear c9
             try clear c10
             try clear c10b0
             try clear c11
             try clear c11b0
             try clear p12
             try clear q12
             try clear hx12
             try clear c16
             try clear c18
             try clear c18b0
             try clear c18b1
             try clear c20
             try clear c21
             try clear c26
             try clear c26b0
             try clear c26b1
             try clear c28
             try clear c28b0
             try clear c29
             try clear c29b0
             try clear p30
             try clear q30
             try clear hx30
             try clear c31
             try clear c33
             try clear c33b0
             try clear c33b1
             try clear c35
             try clear c35b0
             try clear c36
             try clear c36b0
             try clear p37
             try clear q37
             try clear hx37
             try clear p38
             try clear q38
             try clear hx38
             try clear c44
             try clear c44b0
             try clear c46
             try clear c46b0
             try clear c46b1
             try clear c47
             try clear c47b0
             try clear c47b1
             try clear c48
             try clear c48b0
             try clear c48b1
             try clear c50
             try clear hcz17_0
             try clear hcz17_1
             try clear hcz17_2
             try clear hcz17_3
             try clear hcz22_0
             try clear hcz22_1
             try clear hcz22_2
             try clear hcz22_3
             try clear hcz32_0
             try clear hcz32_1
             try clear hcz32_2
             try clear hcz32_3
             try clear hcz51_0
             try clear hcz51_1
             try clear hcz51_2
             try clear hcz51_3
             try clear hcz7_0
             try clear hcz7_1
             try clear hcz7_2
             try clear hcz7_3
             try clear hcz9_0
             try clear hcz9_1
             try clear hcz9_2
             try clear hcz9_3
             try clear hfz17_0
             try clear hfz17_1
             try clear hfz17_2
             try clear hfz17_3
             try clear hfz22_0
             try clear hfz22_1
             try clear hfz22_2
             try clear hfz22_3
             try clear hfz32_0
             try clear hfz32_1
             try clear hfz32_2
             try clear hfz32_3
             try clear hfz51_0
             try clear hfz51_1
             try clear hfz51_2
             try clear hfz51_3
             try clear hfz7_0
             try clear hfz7_1
             try clear hfz7_2
             try clear hfz7_3
             try clear hfz9_0
             try clear hfz9_1
             try clear hfz9_2
             try clear hfz9_3
             try clear p1
             try clear p12
             try clear p2
             try clear p3
             try clear p30
             try clear p37
             try clear p38
             try clear p6
             try clear q1
             try clear q12
             try clear q3
             try clear q30
             try clear q37
             try clear q38
             obtain ⟨kq, x106003_42, HA, HJ42, BK104, BK105, HB⟩ := hcut
             cases kq with
             | zero => exact absurd HA.out (by simp [ins_Decode.j3])
             | succ kj42 =>
              have H := HA.out
              clear HA
              simp only [ins_Decode.j3] at H
              replace H := z8 H
              obtain ⟨t113, A520, H⟩ := H
              replace H : (if t113 = true then ((ins_isRegister.f x106002_24).bind fun t114 => (if t114 = true then (if t106 = 10 then (if x106003_42 < 0 then (some (0, 0, 0, 0, 0, 9)) else (some ((wrap64 (bt a0 a1)), x106001_24, x106002_24, x106003_42, (wrap64 (a1 + t108)), 0))) else (some ((wrap64 (bt a0 a1)), x106001_24, x106002_24, x106003_42, (wrap64 (a1 + t108)), 0))) else (some (0, 0, 0, 0, 0, 9)))) else (some (0, 0, 0, 0, 0, 9))) = some (r1, r2, r3, r4, r5, r6) := H
              have A52 := z4 A520
              clear A520
              by_cases c53 : t113 = true
              ·subst c53
               have H1 : ((ins_isRegister.f x106002_24).bind fun t114 => (if t114 = true then (if t106 = 10 then (if x106003_42 < 0 then (some (0, 0, 0, 0, 0, 9)) else (some ((wrap64 (bt a0 a1)), x106001_24, x106002_24, x106003_42, (wrap64 (a1 + t108)), 0))) else (some ((wrap64 (bt a0 a1)), x106001_24, x106002_24, x106003_42, (wrap64 (a1 + t108)), 0))) else (some (0, 0, 0, 0, 0, 9)))) = some (r1, r2, r3, r4, r5, r6) := by rw [if_pos rfl] at H; exact H
               clear H
               have H := H1
               clear H1
               replace H := z8 H
               obtain ⟨t114, A540, H⟩ := H
               replace H : (if t114 = true then (if t106 = 10 then (if x106003_42 < 0 then (some (0, 0, 0, 0, 0, 9)) else (some ((wrap64 (bt a0 a1)), x106001_24, x106002_24, x106003_42, (wrap64 (a1 + t108)), 0))) else (some ((wrap64 (bt a0 a1)), x106001_24, x106002_24, x106003_42, (wrap64 (a1 + t108)), 0))) else (some (0, 0, 0, 0, 0, 9))) = some (r1, r2, r3, r4, r5, r6) := H
               have A54 := z4 A540
               clear A540
               by_cases c55 : t114 = true
               ·subst c55
                have H1 : (if t106 = 10 then (if x106003_42 < 0 then (some (0, 0, 0, 0, 0, 9)) else (some ((wrap64 (bt a0 a1)), x106001_24, x106002_24, x106003_42, (wrap64 (a1 + t108)), 0))) else (some ((wrap64 (bt a0 a1)), x106001_24, x106002_24, x106003_42, (wrap64 (a1 + t108)), 0))) = some (r1, r2, r3, r4, r5, r6) := by rw [if_pos rfl] at H; exact H
                clear H
                have H := H1
                clear H1
                by_cases c56 : t106 = 10
                ·rw [if_pos c56] at H
                 have c56b0 : (t106 == 10) = true := z5 c56
                 have c56b1 : (t106 != 10) = false := z6 c56
                 clear c56
                 by_cases c57 : x106003_42 < 0
                 ·rw [if_pos c57] at H
                  have c57b0 : decide (x106003_42 < 0) = true := decide_eq_true c57
                  clear c57
                  simp only [Option.some.injEq, Prod.mk.injEq] at H
                  obtain ⟨rfl, rfl, rfl, rfl, rfl, rfl⟩ := H
                  have hnb58 := NB105_104.out
                  have hnc58 := NB104_105.out
                  have hcz59_0 : wc.cell? ⟨gb105, 0, none⟩ = some (.int .i64 (wrap64 (bt a0 a1))) := (zC BK105.out 0).trans rfl
                  have hcz59_1 : wc.cell? ⟨gb105, 1, none⟩ = some (.int .i64 x106001_24) := (zC BK105.out 1).trans rfl
                  have hcz59_2 : wc.cell? ⟨gb105, 2, none⟩ = some (.int .i64 x106002_24) := (zC BK105.out 2).trans rfl
                  have hcz59_3 : wc.cell? ⟨gb105, 3, none⟩ = some (.int .i64 x106003_42) := (zC BK105.out 3).trans rfl
                  have hfz59_0 := zF BK105.out 0
                  have hfz59_1 := zF BK105.out 1
                  have hfz59_2 := zF BK105.out 2
                  have hfz59_3 := zF BK105.out 3
                  go_wp2_with (first | ((with_reducible refine gate_callee (f := 93) rfl ?_); refine goesL_ (some 94) rfl rfl Tryd.func93 (by kernel_rfl) rfl #[.int .i64 x106001_24] rfl (by (try simp only [z9, List.map_cons, List.map_nil]); first | done | rfl | (simp only [z9a, z9b]; rfl)) ?_; (with_reducible refine (ins_isRegister.calls x106001_24 true _ A52.out).mono ?_); rintro e w' ⟨rfl, ⟨nd, rfl⟩⟩; refine ⟨_, rfl, ?_⟩; (try (rw [drewN_self wc]; generalize hq_ : World.drewN wc _ = wc; have n0_ : Aside0 (wc.heap[gb104]? = some (.cells #[.int .i64 0, .int .i64 0, .int .i64 0, .int .i64 0] 79 (0, 0))) := ⟨by rw [← hq_]; exact (by (with_reducible repeat (first | refine zH ?_ _ | refine zI ?_ | refine zG ?_ _)); exact BK104.out)⟩; have n1_ : Aside0 (wc.heap[gb105]? = some (.cells #[.int .i64 (wrap64 (bt a0 a1)), .int .i64 x106001_24, .int .i64 x106002_24, .int .i64 x106003_42] 79 (0, 0))) := ⟨by rw [← hq_]; exact (by (with_reducible repeat (first | refine zH ?_ _ | refine zI ?_ | refine zG ?_ _)); exact BK105.out)⟩; have n2_ : Aside0 (Below w.heap.size w wc) := ⟨by rw [← hq_]; exact (by repeat (first | exact HB.out | apply zA | apply zB | apply zD | refine zJ ?_ GE104.out | refine zJ ?_ GE105.out))⟩; clear BK104 BK105 HB hq_; have BK104 := n0_; have BK105 := n1_; have HB := n2_; clear n0_ n1_ n2_; have hcq104_0 : wc.cell? ⟨gb104, 0, none⟩ = some (.int .i64 0) := (zC BK104.out 0).trans rfl; have hfq104_0 := zF BK104.out 0; have hcq104_1 : wc.cell? ⟨gb104, 1, none⟩ = some (.int .i64 0) := (zC BK104.out 1).trans rfl; have hfq104_1 := zF BK104.out 1; have hcq104_2 : wc.cell? ⟨gb104, 2, none⟩ = some (.int .i64 0) := (zC BK104.out 2).trans rfl; have hfq104_2 := zF BK104.out 2; have hcq104_3 : wc.cell? ⟨gb104, 3, none⟩ = some (.int .i64 0) := (zC BK104.out 3).trans rfl; have hfq104_3 := zF BK104.out 3; have hcq105_0 : wc.cell? ⟨gb105, 0, none⟩ = some (.int .i64 (wrap64 (bt a0 a1))) := (zC BK105.out 0).trans rfl; have hfq105_0 := zF BK105.out 0; have hcq105_1 : wc.cell? ⟨gb105, 1, none⟩ = some (.int .i64 x106001_24) := (zC BK105.out 1).trans rfl; have hfq105_1 := zF BK105.out 1; have hcq105_2 : wc.cell? ⟨gb105, 2, none⟩ = some (.int .i64 x106002_24) := (zC BK105.out 2).trans rfl; have hfq105_2 := zF BK105.out 2; have hcq105_3 : wc.cell? ⟨gb105, 3, none⟩ = some (.int .i64 x106003_42) := (zC BK105.out 3).trans rfl; have hfq105_3 := zF BK105.out 3))) | (go_at_call 93; (with_reducible refine (ins_isRegister.calls x106002_24 true _ A54.out).mono ?_); rintro e w' ⟨rfl, ⟨nd, rfl⟩⟩; (try (rw [drewN_self wc]; generalize hq_ : World.drewN wc _ = wc; have n0_ : Aside0 (wc.heap[gb104]? = some (.cells #[.int .i64 0, .int .i64 0, .int .i64 0, .int .i64 0] 79 (0, 0))) := ⟨by rw [← hq_]; exact (by (with_reducible repeat (first | refine zH ?_ _ | refine zI ?_ | refine zG ?_ _)); exact BK104.out)⟩; have n1_ : Aside0 (wc.heap[gb105]? = some (.cells #[.int .i64 (wrap64 (bt a0 a1)), .int .i64 x106001_24, .int .i64 x106002_24, .int .i64 x106003_42] 79 (0, 0))) := ⟨by rw [← hq_]; exact (by (with_reducible repeat (first | refine zH ?_ _ | refine zI ?_ | refine zG ?_ _)); exact BK105.out)⟩; have n2_ : Aside0 (Below w.heap.size w wc) := ⟨by rw [← hq_]; exact (by repeat (first | exact HB.out | apply zA | apply zB | apply zD | refine zJ ?_ GE104.out | refine zJ ?_ GE105.out))⟩; clear BK104 BK105 HB hq_; have BK104 := n0_; have BK105 := n1_; have HB := n2_; clear n0_ n1_ n2_; have hcq104_0 : wc.cell? ⟨gb104, 0, none⟩ = some (.int .i64 0) := (zC BK104.out 0).trans rfl; have hfq104_0 := zF BK104.out 0; have hcq104_1 : wc.cell? ⟨gb104, 1, none⟩ = some (.int .i64 0) := (zC BK104.out 1).trans rfl; have hfq104_1 := zF BK104.out 1; have hcq104_2 : wc.cell? ⟨gb104, 2, none⟩ = some (.int .i64 0) := (zC BK104.out 2).trans rfl; have hfq104_2 := zF BK104.out 2; have hcq104_3 : wc.cell? ⟨gb104, 3, none⟩ = some (.int .i64 0) := (zC BK104.out 3).trans rfl; have hfq104_3 := zF BK104.out 3; have hcq105_0 : wc.cell? ⟨gb105, 0, none⟩ = some (.int .i64 (wrap64 (bt a0 a1))) := (zC BK105.out 0).trans rfl; have hfq105_0 := zF BK105.out 0; have hcq105_1 : wc.cell? ⟨gb105, 1, none⟩ = some (.int .i64 x106001_24) := (zC BK105.out 1).trans rfl; have hfq105_1 := zF BK105.out 1; have hcq105_2 : wc.cell? ⟨gb105, 2, none⟩ = some (.int .i64 x106002_24) := (zC BK105.out 2).trans rfl; have hfq105_2 := zF BK105.out 2; have hcq105_3 : wc.cell? ⟨gb105, 3, none⟩ = some (.int .i64 x106003_42) := (zC BK105.out 3).trans rfl; have hfq105_3 := zF BK105.out 3)); have hcz60_0 : wc.cell? ⟨gb104, 0, none⟩ = some (.int .i64 0) := (zC BK104.out 0).trans rfl; have hcz60_1 : wc.cell? ⟨gb104, 1, none⟩ = some (.int .i64 0) := (zC BK104.out 1).trans rfl; have hcz60_2 : wc.cell? ⟨gb104, 2, none⟩ = some (.int .i64 0) := (zC BK104.out 2).trans rfl; have hcz60_3 : wc.cell? ⟨gb104, 3, none⟩ = some (.int .i64 0) := (zC BK104.out 3).trans rfl; have hfz60_0 := zF BK104.out 0; have hfz60_1 := zF BK104.out 1; have hfz60_2 := zF BK104.out 2; have hfz60_3 := zF BK104.out 3))
                  refine bodyPost_ret (results_ctt rfl _ _ gb104 79 #[.int .i64 0, .int .i64 0, .int .i64 0, .int .i64 0] (0, 0) _ rfl (by (with_reducible repeat (first | refine zH ?_ _ | refine zI ?_ | refine zG ?_ _)); refine blk_put (cs := #[.int .i64 0, .int .i64 0, .int .i64 0, .int .i64 0]) ?_ 3 _ rfl; (with_reducible repeat (first | refine zH ?_ _ | refine zI ?_ | refine zG ?_ _)); refine blk_put (cs := #[.int .i64 0, .int .i64 0, .int .i64 0, .int .i64 0]) ?_ 2 _ rfl; (with_reducible repeat (first | refine zH ?_ _ | refine zI ?_ | refine zG ?_ _)); refine blk_put (cs := #[.int .i64 0, .int .i64 0, .int .i64 0, .int .i64 0]) ?_ 1 _ rfl; (with_reducible repeat (first | refine zH ?_ _ | refine zI ?_ | refine zG ?_ _)); refine blk_put (cs := #[.int .i64 0, .int .i64 0, .int .i64 0, .int .i64 0]) ?_ 0 _ rfl; (with_reducible repeat (first | refine zH ?_ _ | refine zI ?_ | refine zG ?_ _)); exact BK104.out) Tryd.underlying79 rfl (by kernel_rfl)) rfl ?_
                  exact ⟨by first | rfl | (simp [errW_none, errW_some] <;> rfl) | (simp [*, errW_none, errW_some] <;> rfl), by repeat (first | exact HB.out | apply zA | apply zB | apply zD | refine zJ ?_ GE104.out | refine zJ ?_ GE105.out)⟩
                 ·rw [if_neg c57] at H
                  have c57b0 : decide (x106003_42 < 0) = false := decide_eq_false c57
                  clear c57
                  simp only [Option.some.injEq, Prod.mk.injEq] at H
                  obtain ⟨rfl, rfl, rfl, rfl, rfl, rfl⟩ := H
                  have hnb61 := NB105_104.out
                  have hnc61 := NB104_105.out
                  have hcz62_0 : wc.cell? ⟨gb105, 0, none⟩ = some (.int .i64 (wrap64 (bt a0 a1))) := (zC BK105.out 0).trans rfl
                  have hcz62_1 : wc.cell? ⟨gb105, 1, none⟩ = some (.int .i64 x106001_24) := (zC BK105.out 1).trans rfl
                  have hcz62_2 : wc.cell? ⟨gb105, 2, none⟩ = some (.int .i64 x106002_24) := (zC BK105.out 2).trans rfl
                  have hcz62_3 : wc.cell? ⟨gb105, 3, none⟩ = some (.int .i64 x106003_42) := (zC BK105.out 3).trans rfl
                  have hfz62_0 := zF BK105.out 0
                  have hfz62_1 := zF BK105.out 1
                  have hfz62_2 := zF BK105.out 2
                  have hfz62_3 := zF BK105.out 3
                  go_wp2_with (first | ((with_reducible refine gate_callee (f := 93) rfl ?_); refine goesL_ (some 94) rfl rfl Tryd.func93 (by kernel_rfl) rfl #[.int .i64 x106001_24] rfl (by (try simp only [z9, List.map_cons, List.map_nil]); first | done | rfl | (simp only [z9a, z9b]; rfl)) ?_; (with_reducible refine (ins_isRegister.calls x106001_24 true _ A52.out).mono ?_); rintro e w' ⟨rfl, ⟨nd, rfl⟩⟩; refine ⟨_, rfl, ?_⟩; (try (rw [drewN_self wc]; generalize hq_ : World.drewN wc _ = wc; have n0_ : Aside0 (wc.heap[gb104]? = some (.cells #[.int .i64 0, .int .i64 0, .int .i64 0, .int .i64 0] 79 (0, 0))) := ⟨by rw [← hq_]; exact (by (with_reducible repeat (first | refine zH ?_ _ | refine zI ?_ | refine zG ?_ _)); exact BK104.out)⟩; have n1_ : Aside0 (wc.heap[gb105]? = some (.cells #[.int .i64 (wrap64 (bt a0 a1)), .int .i64 x106001_24, .int .i64 x106002_24, .int .i64 x106003_42] 79 (0, 0))) := ⟨by rw [← hq_]; exact (by (with_reducible repeat (first | refine zH ?_ _ | refine zI ?_ | refine zG ?_ _)); exact BK105.out)⟩; have n2_ : Aside0 (Below w.heap.size w wc) := ⟨by rw [← hq_]; exact (by repeat (first | exact HB.out | apply zA | apply zB | apply zD | refine zJ ?_ GE104.out | refine zJ ?_ GE105.out))⟩; clear BK104 BK105 HB hq_; have BK104 := n0_; have BK105 := n1_; have HB := n2_; clear n0_ n1_ n2_; have hcq104_0 : wc.cell? ⟨gb104, 0, none⟩ = some (.int .i64 0) := (zC BK104.out 0).trans rfl; have hfq104_0 := zF BK104.out 0; have hcq104_1 : wc.cell? ⟨gb104, 1, none⟩ = some (.int .i64 0) := (zC BK104.out 1).trans rfl; have hfq104_1 := zF BK104.out 1; have hcq104_2 : wc.cell? ⟨gb104, 2, none⟩ = some (.int .i64 0) := (zC BK104.out 2).trans rfl; have hfq104_2 := zF BK104.out 2; have hcq104_3 : wc.cell? ⟨gb104, 3, none⟩ = some (.int .i64 0) := (zC BK104.out 3).trans rfl; have hfq104_3 := zF BK104.out 3; have hcq105_0 : wc.cell? ⟨gb105, 0, none⟩ = some (.int .i64 (wrap64 (bt a0 a1))) := (zC BK105.out 0).trans rfl; have hfq105_0 := zF BK105.out 0; have hcq105_1 : wc.cell? ⟨gb105, 1, none⟩ = some (.int .i64 x106001_24) := (zC BK105.out 1).trans rfl; have hfq105_1 := zF BK105.out 1; have hcq105_2 : wc.cell? ⟨gb105, 2, none⟩ = some (.int .i64 x106002_24) := (zC BK105.out 2).trans rfl; have hfq105_2 := zF BK105.out 2; have hcq105_3 : wc.cell? ⟨gb105, 3, none⟩ = some (.int .i64 x106003_42) := (zC BK105.out 3).trans rfl; have hfq105_3 := zF BK105.out 3))) | (go_at_call 93; (with_reducible refine (ins_isRegister.calls x106002_24 true _ A54.out).mono ?_); rintro e w' ⟨rfl, ⟨nd, rfl⟩⟩; (try (rw [drewN_self wc]; generalize hq_ : World.drewN wc _ = wc; have n0_ : Aside0 (wc.heap[gb104]? = some (.cells #[.int .i64 0, .int .i64 0, .int .i64 0, .int .i64 0] 79 (0, 0))) := ⟨by rw [← hq_]; exact (by (with_reducible repeat (first | refine zH ?_ _ | refine zI ?_ | refine zG ?_ _)); exact BK104.out)⟩; have n1_ : Aside0 (wc.heap[gb105]? = some (.cells #[.int .i64 (wrap64 (bt a0 a1)), .int .i64 x106001_24, .int .i64 x106002_24, .int .i64 x106003_42] 79 (0, 0))) := ⟨by rw [← hq_]; exact (by (with_reducible repeat (first | refine zH ?_ _ | refine zI ?_ | refine zG ?_ _)); exact BK105.out)⟩; have n2_ : Aside0 (Below w.heap.size w wc) := ⟨by rw [← hq_]; exact (by repeat (first | exact HB.out | apply zA | apply zB | apply zD | refine zJ ?_ GE104.out | refine zJ ?_ GE105.out))⟩; clear BK104 BK105 HB hq_; have BK104 := n0_; have BK105 := n1_; have HB := n2_; clear n0_ n1_ n2_; have hcq104_0 : wc.cell? ⟨gb104, 0, none⟩ = some (.int .i64 0) := (zC BK104.out 0).trans rfl; have hfq104_0 := zF BK104.out 0; have hcq104_1 : wc.cell? ⟨gb104, 1, none⟩ = some (.int .i64 0) := (zC BK104.out 1).trans rfl; have hfq104_1 := zF BK104.out 1; have hcq104_2 : wc.cell? ⟨gb104, 2, none⟩ = some (.int .i64 0) := (zC BK104.out 2).trans rfl; have hfq104_2 := zF BK104.out 2; have hcq104_3 : wc.cell? ⟨gb104, 3, none⟩ = some (.int .i64 0) := (zC BK104.out 3).trans rfl; have hfq104_3 := zF BK104.out 3; have hcq105_0 : wc.cell? ⟨gb105, 0, none⟩ = some (.int .i64 (wrap64 (bt a0 a1))) := (zC BK105.out 0).trans rfl; have hfq105_0 := zF BK105.out 0; have hcq105_1 : wc.cell? ⟨gb105, 1, none⟩ = some (.int .i64 x106001_24) := (zC BK105.out 1).trans rfl; have hfq105_1 := zF BK105.out 1; have hcq105_2 : wc.cell? ⟨gb105, 2, none⟩ = some (.int .i64 x106002_24) := (zC BK105.out 2).trans rfl; have hfq105_2 := zF BK105.out 2; have hcq105_3 : wc.cell? ⟨gb105, 3, none⟩ = some (.int .i64 x106003_42) := (zC BK105.out 3).trans rfl; have hfq105_3 := zF BK105.out 3)); have hcz63_0 : wc.cell? ⟨gb104, 0, none⟩ = some (.int .i64 0) := (zC BK104.out 0).trans rfl; have hcz63_1 : wc.cell? ⟨gb104, 1, none⟩ = some (.int .i64 0) := (zC BK104.out 1).trans rfl; have hcz63_2 : wc.cell? ⟨gb104, 2, none⟩ = some (.int .i64 0) := (zC BK104.out 2).trans rfl; have hcz63_3 : wc.cell? ⟨gb104, 3, none⟩ = some (.int .i64 0) := (zC BK104.out 3).trans rfl; have hfz63_0 := zF BK104.out 0; have hfz63_1 := zF BK104.out 1; have hfz63_2 := zF BK104.out 2; have hfz63_3 := zF BK104.out 3))
                  refine bodyPost_ret (results_ctt rfl _ _ gb104 79 #[.int .i64 (wrap64 (bt a0 a1)), .int .i64 x106001_24, .int .i64 x106002_24, .int .i64 x106003_42] (0, 0) _ rfl (by (with_reducible repeat (first | refine zH ?_ _ | refine zI ?_ | refine zG ?_ _)); refine blk_put (cs := #[.int .i64 (wrap64 (bt a0 a1)), .int .i64 x106001_24, .int .i64 x106002_24, .int .i64 0]) ?_ 3 _ rfl; (with_reducible repeat (first | refine zH ?_ _ | refine zI ?_ | refine zG ?_ _)); refine blk_put (cs := #[.int .i64 (wrap64 (bt a0 a1)), .int .i64 x106001_24, .int .i64 0, .int .i64 0]) ?_ 2 _ rfl; (with_reducible repeat (first | refine zH ?_ _ | refine zI ?_ | refine zG ?_ _)); refine blk_put (cs := #[.int .i64 (wrap64 (bt a0 a1)), .int .i64 0, .int .i64 0, .int .i64 0]) ?_ 1 _ rfl; (with_reducible repeat (first | refine zH ?_ _ | refine zI ?_ | refine zG ?_ _)); refine blk_put (cs := #[.int .i64 0, .int .i64 0, .int .i64 0, .int .i64 0]) ?_ 0 _ rfl; (with_reducible repeat (first | refine zH ?_ _ | refine zI ?_ | refine zG ?_ _)); exact BK104.out) Tryd.underlying79 rfl (by kernel_rfl)) rfl ?_
                  exact ⟨by first | rfl | (simp [errW_none, errW_some] <;> rfl) | (simp [*, errW_none, errW_some] <;> rfl), by repeat (first | exact HB.out | apply zA | apply zB | apply zD | refine zJ ?_ GE104.out | refine zJ ?_ GE105.out)⟩
                ·rw [if_neg c56] at H
                 have c56b0 : (t106 == 10) = false := z7 c56
                 have c56b1 : (t106 != 10) = true := bne_iff_ne.mpr c56
                 simp only [Option.some.injEq, Prod.mk.injEq] at H
                 obtain ⟨rfl, rfl, rfl, rfl, rfl, rfl⟩ := H
                 have hnb64 := NB105_104.out
                 have hnc64 := NB104_105.out
                 have hcz65_0 : wc.cell? ⟨gb105, 0, none⟩ = some (.int .i64 (wrap64 (bt a0 a1))) := (zC BK105.out 0).trans rfl
                 have hcz65_1 : wc.cell? ⟨gb105, 1, none⟩ = some (.int .i64 x106001_24) := (zC BK105.out 1).trans rfl
                 have hcz65_2 : wc.cell? ⟨gb105, 2, none⟩ = some (.int .i64 x106002_24) := (zC BK105.out 2).trans rfl
                 have hcz65_3 : wc.cell? ⟨gb105, 3, none⟩ = some (.int .i64 x106003_42) := (zC BK105.out 3).trans rfl
                 have hfz65_0 := zF BK105.out 0
                 have hfz65_1 := zF BK105.out 1
                 have hfz65_2 := zF BK105.out 2
                 have hfz65_3 := zF BK105.out 3
                 go_wp2_with (first | ((with_reducible refine gate_callee (f := 93) rfl ?_); refine goesL_ (some 94) rfl rfl Tryd.func93 (by kernel_rfl) rfl #[.int .i64 x106001_24] rfl (by (try simp only [z9, List.map_cons, List.map_nil]); first | done | rfl | (simp only [z9a, z9b]; rfl)) ?_; (with_reducible refine (ins_isRegister.calls x106001_24 true _ A52.out).mono ?_); rintro e w' ⟨rfl, ⟨nd, rfl⟩⟩; refine ⟨_, rfl, ?_⟩; (try (rw [drewN_self wc]; generalize hq_ : World.drewN wc _ = wc; have n0_ : Aside0 (wc.heap[gb104]? = some (.cells #[.int .i64 0, .int .i64 0, .int .i64 0, .int .i64 0] 79 (0, 0))) := ⟨by rw [← hq_]; exact (by (with_reducible repeat (first | refine zH ?_ _ | refine zI ?_ | refine zG ?_ _)); exact BK104.out)⟩; have n1_ : Aside0 (wc.heap[gb105]? = some (.cells #[.int .i64 (wrap64 (bt a0 a1)), .int .i64 x106001_24, .int .i64 x106002_24, .int .i64 x106003_42] 79 (0, 0))) := ⟨by rw [← hq_]; exact (by (with_reducible repeat (first | refine zH ?_ _ | refine zI ?_ | refine zG ?_ _)); exact BK105.out)⟩; have n2_ : Aside0 (Below w.heap.size w wc) := ⟨by rw [← hq_]; exact (by repeat (first | exact HB.out | apply zA | apply zB | apply zD | refine zJ ?_ GE104.out | refine zJ ?_ GE105.out))⟩; clear BK104 BK105 HB hq_; have BK104 := n0_; have BK105 := n1_; have HB := n2_; clear n0_ n1_ n2_; have hcq104_0 : wc.cell? ⟨gb104, 0, none⟩ = some (.int .i64 0) := (zC BK104.out 0).trans rfl; have hfq104_0 := zF BK104.out 0; have hcq104_1 : wc.cell? ⟨gb104, 1, none⟩ = some (.int .i64 0) := (zC BK104.out 1).trans rfl; have hfq104_1 := zF BK104.out 1; have hcq104_2 : wc.cell? ⟨gb104, 2, none⟩ = some (.int .i64 0) := (zC BK104.out 2).trans rfl; have hfq104_2 := zF BK104.out 2; have hcq104_3 : wc.cell? ⟨gb104, 3, none⟩ = some (.int .i64 0) := (zC BK104.out 3).trans rfl; have hfq104_3 := zF BK104.out 3; have hcq105_0 : wc.cell? ⟨gb105, 0, none⟩ = some (.int .i64 (wrap64 (bt a0 a1))) := (zC BK105.out 0).trans rfl; have hfq105_0 := zF BK105.out 0; have hcq105_1 : wc.cell? ⟨gb105, 1, none⟩ = some (.int .i64 x106001_24) := (zC BK105.out 1).trans rfl; have hfq105_1 := zF BK105.out 1; have hcq105_2 : wc.cell? ⟨gb105, 2, none⟩ = some (.int .i64 x106002_24) := (zC BK105.out 2).trans rfl; have hfq105_2 := zF BK105.out 2; have hcq105_3 : wc.cell? ⟨gb105, 3, none⟩ = some (.int .i64 x106003_42) := (zC BK105.out 3).trans rfl; have hfq105_3 := zF BK105.out 3))) | (go_at_call 93; (with_reducible refine (ins_isRegister.calls x106002_24 true _ A54.out).mono ?_); rintro e w' ⟨rfl, ⟨nd, rfl⟩⟩; (try (rw [drewN_self wc]; generalize hq_ : World.drewN wc _ = wc; have n0_ : Aside0 (wc.heap[gb104]? = some (.cells #[.int .i64 0, .int .i64 0, .int .i64 0, .int .i64 0] 79 (0, 0))) := ⟨by rw [← hq_]; exact (by (with_reducible repeat (first | refine zH ?_ _ | refine zI ?_ | refine zG ?_ _)); exact BK104.out)⟩; have n1_ : Aside0 (wc.heap[gb105]? = some (.cells #[.int .i64 (wrap64 (bt a0 a1)), .int .i64 x106001_24, .int .i64 x106002_24, .int .i64 x106003_42] 79 (0, 0))) := ⟨by rw [← hq_]; exact (by (with_reducible repeat (first | refine zH ?_ _ | refine zI ?_ | refine zG ?_ _)); exact BK105.out)⟩; have n2_ : Aside0 (Below w.heap.size w wc) := ⟨by rw [← hq_]; exact (by repeat (first | exact HB.out | apply zA | apply zB | apply zD | refine zJ ?_ GE104.out | refine zJ ?_ GE105.out))⟩; clear BK104 BK105 HB hq_; have BK104 := n0_; have BK105 := n1_; have HB := n2_; clear n0_ n1_ n2_; have hcq104_0 : wc.cell? ⟨gb104, 0, none⟩ = some (.int .i64 0) := (zC BK104.out 0).trans rfl; have hfq104_0 := zF BK104.out 0; have hcq104_1 : wc.cell? ⟨gb104, 1, none⟩ = some (.int .i64 0) := (zC BK104.out 1).trans rfl; have hfq104_1 := zF BK104.out 1; have hcq104_2 : wc.cell? ⟨gb104, 2, none⟩ = some (.int .i64 0) := (zC BK104.out 2).trans rfl; have hfq104_2 := zF BK104.out 2; have hcq104_3 : wc.cell? ⟨gb104, 3, none⟩ = some (.int .i64 0) := (zC BK104.out 3).trans rfl; have hfq104_3 := zF BK104.out 3; have hcq105_0 : wc.cell? ⟨gb105, 0, none⟩ = some (.int .i64 (wrap64 (bt a0 a1))) := (zC BK105.out 0).trans rfl; have hfq105_0 := zF BK105.out 0; have hcq105_1 : wc.cell? ⟨gb105, 1, none⟩ = some (.int .i64 x106001_24) := (zC BK105.out 1).trans rfl; have hfq105_1 := zF BK105.out 1; have hcq105_2 : wc.cell? ⟨gb105, 2, none⟩ = some (.int .i64 x106002_24) := (zC BK105.out 2).trans rfl; have hfq105_2 := zF BK105.out 2; have hcq105_3 : wc.cell? ⟨gb105, 3, none⟩ = some (.int .i64 x106003_42) := (zC BK105.out 3).trans rfl; have hfq105_3 := zF BK105.out 3)); have hcz66_0 : wc.cell? ⟨gb104, 0, none⟩ = some (.int .i64 0) := (zC BK104.out 0).trans rfl; have hcz66_1 : wc.cell? ⟨gb104, 1, none⟩ = some (.int .i64 0) := (zC BK104.out 1).trans rfl; have hcz66_2 : wc.cell? ⟨gb104, 2, none⟩ = some (.int .i64 0) := (zC BK104.out 2).trans rfl; have hcz66_3 : wc.cell? ⟨gb104, 3, none⟩ = some (.int .i64 0) := (zC BK104.out 3).trans rfl; have hfz66_0 := zF BK104.out 0; have hfz66_1 := zF BK104.out 1; have hfz66_2 := zF BK104.out 2; have hfz66_3 := zF BK104.out 3))
                 refine bodyPost_ret (results_ctt rfl _ _ gb104 79 #[.int .i64 (wrap64 (bt a0 a1)), .int .i64 x106001_24, .int .i64 x106002_24, .int .i64 x106003_42] (0, 0) _ rfl (by (with_reducible repeat (first | refine zH ?_ _ | refine zI ?_ | refine zG ?_ _)); refine blk_put (cs := #[.int .i64 (wrap64 (bt a0 a1)), .int .i64 x106001_24, .int .i64 x106002_24, .int .i64 0]) ?_ 3 _ rfl; (with_reducible repeat (first | refine zH ?_ _ | refine zI ?_ | refine zG ?_ _)); refine blk_put (cs := #[.int .i64 (wrap64 (bt a0 a1)), .int .i64 x106001_24, .int .i64 0, .int .i64 0]) ?_ 2 _ rfl; (with_reducible repeat (first | refine zH ?_ _ | refine zI ?_ | refine zG ?_ _)); refine blk_put (cs := #[.int .i64 (wrap64 (bt a0 a1)), .int .i64 0, .int .i64 0, .int .i64 0]) ?_ 1 _ rfl; (with_reducible repeat (first | refine zH ?_ _ | refine zI ?_ | refine zG ?_ _)); refine blk_put (cs := #[.int .i64 0, .int .i64 0, .int .i64 0, .int .i64 0]) ?_ 0 _ rfl; (with_reducible repeat (first | refine zH ?_ _ | refine zI ?_ | refine zG ?_ _)); exact BK104.out) Tryd.underlying79 rfl (by kernel_rfl)) rfl ?_
                 exact ⟨by first | rfl | (simp [errW_none, errW_some] <;> rfl) | (simp [*, errW_none, errW_some] <;> rfl), by repeat (first | exact HB.out | apply zA | apply zB | apply zD | refine zJ ?_ GE104.out | refine zJ ?_ GE105.out)⟩
               ·replace c55 := Bool.eq_false_iff.mpr c55
                subst c55
                have H1 : (some (0, 0, 0, 0, 0, 9)) = some (r1, r2, r3, r4, r5, r6) := by rw [if_neg (show ¬ (false = true) by decide)] at H; exact H
                clear H
                have H := H1
                clear H1
                simp only [Option.some.injEq, Prod.mk.injEq] at H
                obtain ⟨rfl, rfl, rfl, rfl, rfl, rfl⟩ := H
                have hnb67 := NB105_104.out
                have hnc67 := NB104_105.out
                have hcz68_0 : wc.cell? ⟨gb105, 0, none⟩ = some (.int .i64 (wrap64 (bt a0 a1))) := (zC BK105.out 0).trans rfl
                have hcz68_1 : wc.cell? ⟨gb105, 1, none⟩ = some (.int .i64 x106001_24) := (zC BK105.out 1).trans rfl
                have hcz68_2 : wc.cell? ⟨gb105, 2, none⟩ = some (.int .i64 x106002_24) := (zC BK105.out 2).trans rfl
                have hcz68_3 : wc.cell? ⟨gb105, 3, none⟩ = some (.int .i64 x106003_42) := (zC BK105.out 3).trans rfl
                have hfz68_0 := zF BK105.out 0
                have hfz68_1 := zF BK105.out 1
                have hfz68_2 := zF BK105.out 2
                have hfz68_3 := zF BK105.out 3
                go_wp2_with (first | ((with_reducible refine gate_callee (f := 93) rfl ?_); refine goesL_ (some 94) rfl rfl Tryd.func93 (by kernel_rfl) rfl #[.int .i64 x106001_24] rfl (by (try simp only [z9, List.map_cons, List.map_nil]); first | done | rfl | (simp only [z9a, z9b]; rfl)) ?_; (with_reducible refine (ins_isRegister.calls x106001_24 true _ A52.out).mono ?_); rintro e w' ⟨rfl, ⟨nd, rfl⟩⟩; refine ⟨_, rfl, ?_⟩; (try (rw [drewN_self wc]; generalize hq_ : World.drewN wc _ = wc; have n0_ : Aside0 (wc.heap[gb104]? = some (.cells #[.int .i64 0, .int .i64 0, .int .i64 0, .int .i64 0] 79 (0, 0))) := ⟨by rw [← hq_]; exact (by (with_reducible repeat (first | refine zH ?_ _ | refine zI ?_ | refine zG ?_ _)); exact BK104.out)⟩; have n1_ : Aside0 (wc.heap[gb105]? = some (.cells #[.int .i64 (wrap64 (bt a0 a1)), .int .i64 x106001_24, .int .i64 x106002_24, .int .i64 x106003_42] 79 (0, 0))) := ⟨by rw [← hq_]; exact (by (with_reducible repeat (first | refine zH ?_ _ | refine zI ?_ | refine zG ?_ _)); exact BK105.out)⟩; have n2_ : Aside0 (Below w.heap.size w wc) := ⟨by rw [← hq_]; exact (by repeat (first | exact HB.out | apply zA | apply zB | apply zD | refine zJ ?_ GE104.out | refine zJ ?_ GE105.out))⟩; clear BK104 BK105 HB hq_; have BK104 := n0_; have BK105 := n1_; have HB := n2_; clear n0_ n1_ n2_; have hcq104_0 : wc.cell? ⟨gb104, 0, none⟩ = some (.int .i64 0) := (zC BK104.out 0).trans rfl; have hfq104_0 := zF BK104.out 0; have hcq104_1 : wc.cell? ⟨gb104, 1, none⟩ = some (.int .i64 0) := (zC BK104.out 1).trans rfl; have hfq104_1 := zF BK104.out 1; have hcq104_2 : wc.cell? ⟨gb104, 2, none⟩ = some (.int .i64 0) := (zC BK104.out 2).trans rfl; have hfq104_2 := zF BK104.out 2; have hcq104_3 : wc.cell? ⟨gb104, 3, none⟩ = some (.int .i64 0) := (zC BK104.out 3).trans rfl; have hfq104_3 := zF BK104.out 3; have hcq105_0 : wc.cell? ⟨gb105, 0, none⟩ = some (.int .i64 (wrap64 (bt a0 a1))) := (zC BK105.out 0).trans rfl; have hfq105_0 := zF BK105.out 0; have hcq105_1 : wc.cell? ⟨gb105, 1, none⟩ = some (.int .i64 x106001_24) := (zC BK105.out 1).trans rfl; have hfq105_1 := zF BK105.out 1; have hcq105_2 : wc.cell? ⟨gb105, 2, none⟩ = some (.int .i64 x106002_24) := (zC BK105.out 2).trans rfl; have hfq105_2 := zF BK105.out 2; have hcq105_3 : wc.cell? ⟨gb105, 3, none⟩ = some (.int .i64 x106003_42) := (zC BK105.out 3).trans rfl; have hfq105_3 := zF BK105.out 3))) | (go_at_call 93; (with_reducible refine (ins_isRegister.calls x106002_24 false _ A54.out).mono ?_); rintro e w' ⟨rfl, ⟨nd, rfl⟩⟩; (try (rw [drewN_self wc]; generalize hq_ : World.drewN wc _ = wc; have n0_ : Aside0 (wc.heap[gb104]? = some (.cells #[.int .i64 0, .int .i64 0, .int .i64 0, .int .i64 0] 79 (0, 0))) := ⟨by rw [← hq_]; exact (by (with_reducible repeat (first | refine zH ?_ _ | refine zI ?_ | refine zG ?_ _)); exact BK104.out)⟩; have n1_ : Aside0 (wc.heap[gb105]? = some (.cells #[.int .i64 (wrap64 (bt a0 a1)), .int .i64 x106001_24, .int .i64 x106002_24, .int .i64 x106003_42] 79 (0, 0))) := ⟨by rw [← hq_]; exact (by (with_reducible repeat (first | refine zH ?_ _ | refine zI ?_ | refine zG ?_ _)); exact BK105.out)⟩; have n2_ : Aside0 (Below w.heap.size w wc) := ⟨by rw [← hq_]; exact (by repeat (first | exact HB.out | apply zA | apply zB | apply zD | refine zJ ?_ GE104.out | refine zJ ?_ GE105.out))⟩; clear BK104 BK105 HB hq_; have BK104 := n0_; have BK105 := n1_; have HB := n2_; clear n0_ n1_ n2_; have hcq104_0 : wc.cell? ⟨gb104, 0, none⟩ = some (.int .i64 0) := (zC BK104.out 0).trans rfl; have hfq104_0 := zF BK104.out 0; have hcq104_1 : wc.cell? ⟨gb104, 1, none⟩ = some (.int .i64 0) := (zC BK104.out 1).trans rfl; have hfq104_1 := zF BK104.out 1; have hcq104_2 : wc.cell? ⟨gb104, 2, none⟩ = some (.int .i64 0) := (zC BK104.out 2).trans rfl; have hfq104_2 := zF BK104.out 2; have hcq104_3 : wc.cell? ⟨gb104, 3, none⟩ = some (.int .i64 0) := (zC BK104.out 3).trans rfl; have hfq104_3 := zF BK104.out 3; have hcq105_0 : wc.cell? ⟨gb105, 0, none⟩ = some (.int .i64 (wrap64 (bt a0 a1))) := (zC BK105.out 0).trans rfl; have hfq105_0 := zF BK105.out 0; have hcq105_1 : wc.cell? ⟨gb105, 1, none⟩ = some (.int .i64 x106001_24) := (zC BK105.out 1).trans rfl; have hfq105_1 := zF BK105.out 1; have hcq105_2 : wc.cell? ⟨gb105, 2, none⟩ = some (.int .i64 x106002_24) := (zC BK105.out 2).trans rfl; have hfq105_2 := zF BK105.out 2; have hcq105_3 : wc.cell? ⟨gb105, 3, none⟩ = some (.int .i64 x106003_42) := (zC BK105.out 3).trans rfl; have hfq105_3 := zF BK105.out 3)); have hcz69_0 : wc.cell? ⟨gb104, 0, none⟩ = some (.int .i64 0) := (zC BK104.out 0).trans rfl; have hcz69_1 : wc.cell? ⟨gb104, 1, none⟩ = some (.int .i64 0) := (zC BK104.out 1).trans rfl; have hcz69_2 : wc.cell? ⟨gb104, 2, none⟩ = some (.int .i64 0) := (zC BK104.out 2).trans rfl; have hcz69_3 : wc.cell? ⟨gb104, 3, none⟩ = some (.int .i64 0) := (zC BK104.out 3).trans rfl; have hfz69_0 := zF BK104.out 0; have hfz69_1 := zF BK104.out 1; have hfz69_2 := zF BK104.out 2; have hfz69_3 := zF BK104.out 3))
                refine bodyPost_ret (results_ctt rfl _ _ gb104 79 #[.int .i64 0, .int .i64 0, .int .i64 0, .int .i64 0] (0, 0) _ rfl (by (with_reducible repeat (first | refine zH ?_ _ | refine zI ?_ | refine zG ?_ _)); refine blk_put (cs := #[.int .i64 0, .int .i64 0, .int .i64 0, .int .i64 0]) ?_ 3 _ rfl; (with_reducible repeat (first | refine zH ?_ _ | refine zI ?_ | refine zG ?_ _)); refine blk_put (cs := #[.int .i64 0, .int .i64 0, .int .i64 0, .int .i64 0]) ?_ 2 _ rfl; (with_reducible repeat (first | refine zH ?_ _ | refine zI ?_ | refine zG ?_ _)); refine blk_put (cs := #[.int .i64 0, .int .i64 0, .int .i64 0, .int .i64 0]) ?_ 1 _ rfl; (with_reducible repeat (first | refine zH ?_ _ | refine zI ?_ | refine zG ?_ _)); refine blk_put (cs := #[.int .i64 0, .int .i64 0, .int .i64 0, .int .i64 0]) ?_ 0 _ rfl; (with_reducible repeat (first | refine zH ?_ _ | refine zI ?_ | refine zG ?_ _)); exact BK104.out) Tryd.underlying79 rfl (by kernel_rfl)) rfl ?_
                exact ⟨by first | rfl | (simp [errW_none, errW_some] <;> rfl) | (simp [*, errW_none, errW_some] <;> rfl), by repeat (first | exact HB.out | apply zA | apply zB | apply zD | refine zJ ?_ GE104.out | refine zJ ?_ GE105.out)⟩
              ·replace c53 := Bool.eq_false_iff.mpr c53
               subst c53
               have H1 : (some (0, 0, 0, 0, 0, 9)) = some (r1, r2, r3, r4, r5, r6) := by rw [if_neg (show ¬ (false = true) by decide)] at H; exact H
               clear H
               have H := H1
               clear H1
               simp only [Option.some.injEq, Prod.mk.injEq] at H
               obtain ⟨rfl, rfl, rfl, rfl, rfl, rfl⟩ := H
               have hnb70 := NB105_104.out
               have hnc70 := NB104_105.out
               have hcz71_0 : wc.cell? ⟨gb105, 0, none⟩ = some (.int .i64 (wrap64 (bt a0 a1))) := (zC BK105.out 0).trans rfl
               have hcz71_1 : wc.cell? ⟨gb105, 1, none⟩ = some (.int .i64 x106001_24) := (zC BK105.out 1).trans rfl
               have hcz71_2 : wc.cell? ⟨gb105, 2, none⟩ = some (.int .i64 x106002_24) := (zC BK105.out 2).trans rfl
               have hcz71_3 : wc.cell? ⟨gb105, 3, none⟩ = some (.int .i64 x106003_42) := (zC BK105.out 3).trans rfl
               have hfz71_0 := zF BK105.out 0
               have hfz71_1 := zF BK105.out 1
               have hfz71_2 := zF BK105.out 2
               have hfz71_3 := zF BK105.out 3
               go_wp2_with (first | ((with_reducible refine gate_callee (f := 93) rfl ?_); refine goesL_ (some 94) rfl rfl Tryd.func93 (by kernel_rfl) rfl #[.int .i64 x106001_24] rfl (by (try simp only [z9, List.map_cons, List.map_nil]); first | done | rfl | (simp only [z9a, z9b]; rfl)) ?_; (with_reducible refine (ins_isRegister.calls x106001_24 false _ A52.out).mono ?_); rintro e w' ⟨rfl, ⟨nd, rfl⟩⟩; refine ⟨_, rfl, ?_⟩; (try (rw [drewN_self wc]; generalize hq_ : World.drewN wc _ = wc; have n0_ : Aside0 (wc.heap[gb104]? = some (.cells #[.int .i64 0, .int .i64 0, .int .i64 0, .int .i64 0] 79 (0, 0))) := ⟨by rw [← hq_]; exact (by (with_reducible repeat (first | refine zH ?_ _ | refine zI ?_ | refine zG ?_ _)); exact BK104.out)⟩; have n1_ : Aside0 (wc.heap[gb105]? = some (.cells #[.int .i64 (wrap64 (bt a0 a1)), .int .i64 x106001_24, .int .i64 x106002_24, .int .i64 x106003_42] 79 (0, 0))) := ⟨by rw [← hq_]; exact (by (with_reducible repeat (first | refine zH ?_ _ | refine zI ?_ | refine zG ?_ _)); exact BK105.out)⟩; have n2_ : Aside0 (Below w.heap.size w wc) := ⟨by rw [← hq_]; exact (by repeat (first | exact HB.out | apply zA | apply zB | apply zD | refine zJ ?_ GE104.out | refine zJ ?_ GE105.out))⟩; clear BK104 BK105 HB hq_; have BK104 := n0_; have BK105 := n1_; have HB := n2_; clear n0_ n1_ n2_; have hcq104_0 : wc.cell? ⟨gb104, 0, none⟩ = some (.int .i64 0) := (zC BK104.out 0).trans rfl; have hfq104_0 := zF BK104.out 0; have hcq104_1 : wc.cell? ⟨gb104, 1, none⟩ = some (.int .i64 0) := (zC BK104.out 1).trans rfl; have hfq104_1 := zF BK104.out 1; have hcq104_2 : wc.cell? ⟨gb104, 2, none⟩ = some (.int .i64 0) := (zC BK104.out 2).trans rfl; have hfq104_2 := zF BK104.out 2; have hcq104_3 : wc.cell? ⟨gb104, 3, none⟩ = some (.int .i64 0) := (zC BK104.out 3).trans rfl; have hfq104_3 := zF BK104.out 3; have hcq105_0 : wc.cell? ⟨gb105, 0, none⟩ = some (.int .i64 (wrap64 (bt a0 a1))) := (zC BK105.out 0).trans rfl; have hfq105_0 := zF BK105.out 0; have hcq105_1 : wc.cell? ⟨gb105, 1, none⟩ = some (.int .i64 x106001_24) := (zC BK105.out 1).trans rfl; have hfq105_1 := zF BK105.out 1; have hcq105_2 : wc.cell? ⟨gb105, 2, none⟩ = some (.int .i64 x106002_24) := (zC BK105.out 2).trans rfl; have hfq105_2 := zF BK105.out 2; have hcq105_3 : wc.cell? ⟨gb105, 3, none⟩ = some (.int .i64 x106003_42) := (zC BK105.out 3).trans rfl; have hfq105_3 := zF BK105.out 3)); have hcz72_0 : wc.cell? ⟨gb104, 0, none⟩ = some (.int .i64 0) := (zC BK104.out 0).trans rfl; have hcz72_1 : wc.cell? ⟨gb104, 1, none⟩ = some (.int .i64 0) := (zC BK104.out 1).trans rfl; have hcz72_2 : wc.cell? ⟨gb104, 2, none⟩ = some (.int .i64 0) := (zC BK104.out 2).trans rfl; have hcz72_3 : wc.cell? ⟨gb104, 3, none⟩ = some (.int .i64 0) := (zC BK104.out 3).trans rfl; have hfz72_0 := zF BK104.out 0; have hfz72_1 := zF BK104.out 1; have hfz72_2 := zF BK104.out 2; have hfz72_3 := zF BK104.out 3))
               refine bodyPost_ret (results_ctt rfl _ _ gb104 79 #[.int .i64 0, .int .i64 0, .int .i64 0, .int .i64 0] (0, 0) _ rfl (by (with_reducible repeat (first | refine zH ?_ _ | refine zI ?_ | refine zG ?_ _)); refine blk_put (cs := #[.int .i64 0, .int .i64 0, .int .i64 0, .int .i64 0]) ?_ 3 _ rfl; (with_reducible repeat (first | refine zH ?_ _ | refine zI ?_ | refine zG ?_ _)); refine blk_put (cs := #[.int .i64 0, .int .i64 0, .int .i64 0, .int .i64 0]) ?_ 2 _ rfl; (with_reducible repeat (first | refine zH ?_ _ | refine zI ?_ | refine zG ?_ _)); refine blk_put (cs := #[.int .i64 0, .int .i64 0, .int .i64 0, .int .i64 0]) ?_ 1 _ rfl; (with_reducible repeat (first | refine zH ?_ _ | refine zI ?_ | refine zG ?_ _)); refine blk_put (cs := #[.int .i64 0, .int .i64 0, .int .i64 0, .int .i64 0]) ?_ 0 _ rfl; (with_reducible repeat (first | refine zH ?_ _ | refine zI ?_ | refine zG ?_ _)); exact BK104.out) Tryd.underlying79 rfl (by kernel_rfl)) rfl ?_
               exact ⟨by first | rfl | (simp [errW_none, errW_some] <;> rfl) | (simp [*, errW_none, errW_some] <;> rfl), by repeat (first | exact HB.out | apply zA | apply zB | apply zD | refine zJ ?_ GE104.out | refine zJ ?_ GE105.out)⟩
      ·rw [if_neg c11] at H
       exact absurd H (by simp)
     ·rw [if_neg c10] at H
      exact absurd H (by simp)
end Go.Proofs.YtimhcpmfhebbhaaDoor.M
namespace Go.Proofs.YtimhcpmfhebbhaaDoor.M
open Go.RowKit Go.Proofs.YtimhcpmfhebbhaaDoorW.PrintWords Go.Proofs.YtimhcpmfhebbhaaDoorW.PrintLast
set_option linter.unusedVariables false
set_option linter.unusedSimpArgs false
def ins_All.l0 : Nat → ByteArray → List (S79) → Int → Option ((List (S79)) × Int)
 | 0, _, _, _ => none
 | k + 1, x0, x4, x5 => if x5 < (x0.size : Int) then ((ins_Decode.f k x0 x5).bind fun bt115 => (if bt115.2.2.2.2.2 = 0 then (if x4.length < 4398046511104 then (ins_All.l0 k x0 (x4 ++ [(⟨bt115.1, bt115.2.1, bt115.2.2.1, bt115.2.2.2.1⟩ : S79)]) bt115.2.2.2.2.1) else (none)) else (some (([] : List (S79)), 9)))) else (some (x4, 0))
def ins_All.f (k : Nat) (a0 : ByteArray) : Option ((List (S79)) × Int) := ins_All.l0 k a0 ([] : List (S79)) 0
set_option maxHeartbeats 8000000 in
set_option maxRecDepth 100000 in
theorem ins_All.calls (k : Nat) (a0 : ByteArray) (r1 : List (S79)) (r2 : Int) (w : World) (hG : Glob w) (h : ins_All.f k a0 = some (r1, r2)) :
 Calls Tryd.prog 52 #[.string a0] w fun e w' => ∃ v0_ : Value, e = .returned (.tuple #[v0_, .int .i64 r2]) ∧ Kd.R k79 79 w' w.heap.size (fun _ => True) v0_ r1 ∧ Below w.heap.size w w' := by
 have HG := z4 hG
 clear hG
 have hu79 := Tryd.underlying79
 have HB := z4 (Below.refl w.heap.size w)
 have H : (ins_All.l0 k a0 ([] : List (S79)) 0) = some (r1, r2) := h
 clear h
 have H' := z4 H
 clear H
 go_enter Tryd.func52, Tryd.ntmps52
 go_wp2
 go_loopg [4, 5] k (fun kq v4 v5 w' => ∃ (x4_1 : List (S79)) (x5_1 : Int), v5 = .int .i64 x5_1 ∧ Aside0 (ins_All.l0 kq a0 x4_1 x5_1 = some (r1, r2)) ∧ Aside0 (kq ≤ k) ∧ Aside0 (Kd.R k79 79 w' w.heap.size (fun _ => True) v4 x4_1) ∧ Aside0 (Below w.heap.size w w'))
 case atStart => exact ⟨(([] : List (S79))), (0), (by first | rfl | (simp; done) | (simp [*]; done)), H', ⟨Nat.le_refl _⟩, ⟨by first | exact Kd.R_nil _ _ _ _ _ | exact Kd.N_nil _ _ _ _ _ | exact Kd.V_nil _ _ _ _ _ | exact Kd.Q_nil _ _ _ _ _ | exact Kd.S_nil _ _ _ _ _⟩, ⟨by repeat (first | exact HB.out | apply zA | apply zB | apply zD)⟩⟩
 case round =>
  clear H'
  obtain ⟨x4_1, x5_1, rfl, HA, HK1, HO_4, HB⟩ := hrel
  cases gk with
  | zero => exact absurd HA.out (by simp [ins_All.l0])
  | succ k1 =>
   have H := HA.out
   clear HA
   simp only [ins_All.l0] at H
   by_cases c2 : x5_1 < (a0.size : Int)
   ·rw [if_pos c2] at H
    have c2b0 : decide (x5_1 < (a0.size : Int)) = true := decide_eq_true c2
    clear c2
    replace H := z8 H
    obtain ⟨⟨t115, t116, t117, t118, t119, t120⟩, A30, H⟩ := H
    replace H : (if t120 = 0 then (if x4_1.length < 4398046511104 then (ins_All.l0 k1 a0 (x4_1 ++ [(⟨t115, t116, t117, t118⟩ : S79)]) t119) else (none)) else (some (([] : List (S79)), 9))) = some (r1, r2) := H
    have A3 := z4 A30
    clear A30
    by_cases c4 : t120 = 0
    ·rw [if_pos c4] at H
     have c4b0 : (t120 == 0) = true := z5 c4
     have c4b1 : (t120 != 0) = false := z6 c4
     clear c4
     by_cases c5 : x4_1.length < 4398046511104
     ·rw [if_pos c5] at H
      have LMc5 := z4 c5
      clear c5
      obtain ⟨y122, hy122⟩ : ∃ y_ : List (S79), y_ = (x4_1 ++ [(⟨t115, t116, t117, t118⟩ : S79)]) := ⟨_, rfl⟩
      replace H : (ins_All.l0 k1 a0 y122 t119) = some (r1, r2) := by first | (rw [hy122]; with_reducible exact H) | (have H2_ := (Option.bind_some _ _).symm.trans H; rw [hy122]; with_reducible exact H2_) | (have H2_ := (Option.bind_some _ _).symm.trans H; with_reducible exact H2_) | with_reducible exact H | (rw [hy122]; exact H) | exact H
      have Ny122 := z4 hy122
      clear hy122
      have H' := z4 H
      clear H
      go_wp2_with (first | ((with_reducible refine gate_callee (f := 75) rfl ?_); refine goesL_ (some 16) rfl rfl Tryd.func75 (by kernel_rfl) rfl #[.string a0, .int .i64 x5_1] rfl (by (try simp only [z9, List.map_cons, List.map_nil]); first | done | rfl | (simp only [z9a, z9b]; rfl)) ?_; (with_reducible refine (ins_Decode.calls k1 a0 x5_1 t115 t116 t117 t118 t119 t120 _ (HG.out.below (by first | exact Below.refl _ _ | (repeat (first | exact HB.out | apply zA | apply zB | apply zD | refine zJ ?_ GE121.out))) rfl) A3.out).mono ?_); rintro e w6 ⟨rfl, hb⟩; refine ⟨_, rfl, ?_⟩; have n0_ := z4 (zV (by (with_reducible repeat (first | apply zM | apply zN | apply zO)); exact HO_4.out) hb); have n1_ := z4 (zK (by repeat (first | exact HB.out | apply zA | apply zB | apply zD)) hb); clear HO_4; clear HB; have HO_4 := n0_; have HB := n1_; clear n0_ n1_; (try clear hb); (try clear hb2); (try clear hk); (try clear hi)) | ((with_reducible refine gate_dst (N := 6) rfl ?_); refine box_event ?hg (N := 6) ?hd (cs := #[.int .i64 0, .int .i64 0, .int .i64 0, .int .i64 0]) (t := 79) ?hr ?_; (case hd => rfl); (case hg => rfl); (case hr => first | (go_simp; done) | (go_simp; rfl)); intro gb121 hg w7 hbox hb; have n0_ := z4 (zV (Kd.R_elderB (by (with_reducible repeat (first | apply zM | apply zN | apply zO)); exact HO_4.out) gb121 (Nat.le_of_eq hg.symm)) hb); have n1_ := z4 (zK (by repeat (first | exact HB.out | apply zA | apply zB | apply zD)) hb); have n2_ := z4 (hbox); have n3_ := z4 ((by rw [hg]; exact (zL (by repeat (first | exact HB.out | apply zA | apply zB | apply zD))) : w.heap.size ≤ gb121)); have n4_ := z4 ((by rw [hg]; exact (zL (by repeat (first | exact HB.out | apply zA | apply zB | apply zD))) : w.heap.size ≤ gb121)); clear HO_4; clear HB; have HO_4 := n0_; have HB := n1_; have BK121 := n2_; have GW121 := n3_; have GE121 := n4_; clear n0_ n1_ n2_ n3_ n4_; clear hb hbox hg; have hcz8_0 : w7.cell? ⟨gb121, 0, none⟩ = some (.int .i64 0) := (zC BK121.out 0).trans rfl; have hcz8_1 : w7.cell? ⟨gb121, 1, none⟩ = some (.int .i64 0) := (zC BK121.out 1).trans rfl; have hcz8_2 : w7.cell? ⟨gb121, 2, none⟩ = some (.int .i64 0) := (zC BK121.out 2).trans rfl; have hcz8_3 : w7.cell? ⟨gb121, 3, none⟩ = some (.int .i64 0) := (zC BK121.out 3).trans rfl; have hfz8_0 := zF BK121.out 0; have hfz8_1 := zF BK121.out 1; have hfz8_2 := zF BK121.out 2; have hfz8_3 := zF BK121.out 3) | ((with_reducible refine gate_builtin (b := .append) (xs := #[.tmp 22, .tmp 24]) rfl ?_); at_builtin; refine Kd.R_append k79 (w0 := w) w.heap.size rfl (.tmp 22) (.tmp 24) 91 79 (.agg #[(.int .i64 0), (.int .i64 0), (.int .i64 0), (.int .i64 0)]) 32 rfl Tryd.underlying91 info79 rfl (by decide) (by omega) u4 x4_1 (⟨t115, t116, t117, t118⟩ : S79) [.int .i64 t115, .int .i64 t116, .int .i64 t117, .int .i64 t118] (fun k_ => k_ ≠ gb121) (fun _ => False) rfl (by first | (go_simp; done) | (go_simp; rfl)) ?aP (fun _ hk => hk.elim) ?aF ?aO ?aB ?aS ?aL ?_; (case aP => exact k79_mkM _ _ _ (⟨t115, t116, t117, t118⟩ : S79)); (case aB => exact (by repeat (first | exact HB.out | apply zA | apply zB | apply zD | refine zJ ?_ GE121.out))); (case aF => exact (fun k_ hk => Kd.freshB (g := gb121) (o := .cells #[.int .i64 t115, .int .i64 t116, .int .i64 t117, .int .i64 t118] 79 (0, 0)) (by (with_reducible repeat (first | refine zH ?_ _ | refine zI ?_ | refine zG ?_ _)); refine blk_put (cs := #[.int .i64 t115, .int .i64 t116, .int .i64 t117, .int .i64 0]) ?_ 3 _ rfl; (with_reducible repeat (first | refine zH ?_ _ | refine zI ?_ | refine zG ?_ _)); refine blk_put (cs := #[.int .i64 t115, .int .i64 t116, .int .i64 0, .int .i64 0]) ?_ 2 _ rfl; (with_reducible repeat (first | refine zH ?_ _ | refine zI ?_ | refine zG ?_ _)); refine blk_put (cs := #[.int .i64 t115, .int .i64 0, .int .i64 0, .int .i64 0]) ?_ 1 _ rfl; (with_reducible repeat (first | refine zH ?_ _ | refine zI ?_ | refine zG ?_ _)); refine blk_put (cs := #[.int .i64 0, .int .i64 0, .int .i64 0, .int .i64 0]) ?_ 0 _ rfl; (with_reducible repeat (first | refine zH ?_ _ | refine zI ?_ | refine zG ?_ _)); exact BK121.out) k_ hk)); (case aO => exact (by (with_reducible repeat (first | apply zM | apply zN | apply zO)); exact Kd.R_mono (Kd.R_far (p := ⟨gb121, 3, none⟩) (Kd.R_far (p := ⟨gb121, 2, none⟩) (Kd.R_far (p := ⟨gb121, 1, none⟩) (Kd.R_far (p := ⟨gb121, 0, none⟩) (Kd.R_mono HO_4.out (fun k_ hk => (⟨hk, hk.2⟩ : _ ∧ k_ ≠ gb121))) (fun _ hk => hk.2) (.int .i64 t115)) (fun _ hk => hk.2) (.int .i64 t116)) (fun _ hk => hk.2) (.int .i64 t117)) (fun _ hk => hk.2) (.int .i64 t118)) (fun _ hk => hk.1.2))); (case aS => exact (zL (by repeat (first | exact HB.out | apply zA | apply zB | apply zD | refine zJ ?_ GE121.out)))); (case aL => have := LMc5.out; omega); intro v123 w9 ho hb hg hat; rw [← Ny122.out] at ho; have n0_ := z4 (blk_grown (g := gb121) (o := .cells #[.int .i64 t115, .int .i64 t116, .int .i64 t117, .int .i64 t118] 79 (0, 0)) (by (with_reducible repeat (first | refine zH ?_ _ | refine zI ?_ | refine zG ?_ _)); refine blk_put (cs := #[.int .i64 t115, .int .i64 t116, .int .i64 t117, .int .i64 0]) ?_ 3 _ rfl; (with_reducible repeat (first | refine zH ?_ _ | refine zI ?_ | refine zG ?_ _)); refine blk_put (cs := #[.int .i64 t115, .int .i64 t116, .int .i64 0, .int .i64 0]) ?_ 2 _ rfl; (with_reducible repeat (first | refine zH ?_ _ | refine zI ?_ | refine zG ?_ _)); refine blk_put (cs := #[.int .i64 t115, .int .i64 0, .int .i64 0, .int .i64 0]) ?_ 1 _ rfl; (with_reducible repeat (first | refine zH ?_ _ | refine zI ?_ | refine zG ?_ _)); refine blk_put (cs := #[.int .i64 0, .int .i64 0, .int .i64 0, .int .i64 0]) ?_ 0 _ rfl; (with_reducible repeat (first | refine zH ?_ _ | refine zI ?_ | refine zG ?_ _)); exact BK121.out) hg (Kd.R_away HO_4.out (fun _ hk => hk.2))); have n1_ := z4 (hb); have n2_ := z4 (ho); clear BK121; clear HB; clear HO_4; have BK121 := n0_; have HB := n1_; have HO124 := n2_; clear n0_ n1_ n2_; clear ho hb hg hat))
      go_roundg k1
      case measure => have := HK1.out; omega
      case rel => exact ⟨(y122), (t119), (by first | rfl | (simp; done) | (simp [*]; done)), H', ⟨by have := HK1.out; omega⟩, ⟨by (with_reducible repeat (first | apply zM | apply zN | apply zO)); exact Kd.R_mono HO124.out (fun _ hk => trivial)⟩, ⟨by repeat (first | exact HB.out | apply zA | apply zB | apply zD | refine zJ ?_ GE121.out)⟩⟩
     ·rw [if_neg c5] at H
      exact absurd H (by simp)
    ·rw [if_neg c4] at H
     have c4b0 : (t120 == 0) = false := z7 c4
     have c4b1 : (t120 != 0) = true := bne_iff_ne.mpr c4
     simp only [Option.some.injEq, Prod.mk.injEq] at H
     obtain ⟨rfl, rfl⟩ := H
     go_wp2_with (first | ((with_reducible refine gate_callee (f := 75) rfl ?_); refine goesL_ (some 16) rfl rfl Tryd.func75 (by kernel_rfl) rfl #[.string a0, .int .i64 x5_1] rfl (by (try simp only [z9, List.map_cons, List.map_nil]); first | done | rfl | (simp only [z9a, z9b]; rfl)) ?_; (with_reducible refine (ins_Decode.calls k1 a0 x5_1 t115 t116 t117 t118 t119 t120 _ (HG.out.below (by first | exact Below.refl _ _ | (repeat (first | exact HB.out | apply zA | apply zB | apply zD | refine zJ ?_ GE121.out))) rfl) A3.out).mono ?_); rintro e w10 ⟨rfl, hb⟩; refine ⟨_, rfl, ?_⟩; have n0_ := z4 (zV (by (with_reducible repeat (first | apply zM | apply zN | apply zO)); exact HO_4.out) hb); have n1_ := z4 (zK (by repeat (first | exact HB.out | apply zA | apply zB | apply zD)) hb); clear HO_4; clear HB; have HO_4 := n0_; have HB := n1_; clear n0_ n1_; (try clear hb); (try clear hb2); (try clear hk); (try clear hi)) | ((with_reducible refine gate_dst (N := 6) rfl ?_); refine box_event ?hg (N := 6) ?hd (cs := #[.int .i64 0, .int .i64 0, .int .i64 0, .int .i64 0]) (t := 79) ?hr ?_; (case hd => rfl); (case hg => rfl); (case hr => first | (go_simp; done) | (go_simp; rfl)); intro gb121 hg w11 hbox hb; have n0_ := z4 (zV (Kd.R_elderB (by (with_reducible repeat (first | apply zM | apply zN | apply zO)); exact HO_4.out) gb121 (Nat.le_of_eq hg.symm)) hb); have n1_ := z4 (zK (by repeat (first | exact HB.out | apply zA | apply zB | apply zD)) hb); have n2_ := z4 (hbox); have n3_ := z4 ((by rw [hg]; exact (zL (by repeat (first | exact HB.out | apply zA | apply zB | apply zD))) : w.heap.size ≤ gb121)); have n4_ := z4 ((by rw [hg]; exact (zL (by repeat (first | exact HB.out | apply zA | apply zB | apply zD))) : w.heap.size ≤ gb121)); clear HO_4; clear HB; have HO_4 := n0_; have HB := n1_; have BK121 := n2_; have GW121 := n3_; have GE121 := n4_; clear n0_ n1_ n2_ n3_ n4_; clear hb hbox hg; have hcz12_0 : w11.cell? ⟨gb121, 0, none⟩ = some (.int .i64 0) := (zC BK121.out 0).trans rfl; have hcz12_1 : w11.cell? ⟨gb121, 1, none⟩ = some (.int .i64 0) := (zC BK121.out 1).trans rfl; have hcz12_2 : w11.cell? ⟨gb121, 2, none⟩ = some (.int .i64 0) := (zC BK121.out 2).trans rfl; have hcz12_3 : w11.cell? ⟨gb121, 3, none⟩ = some (.int .i64 0) := (zC BK121.out 3).trans rfl; have hfz12_0 := zF BK121.out 0; have hfz12_1 := zF BK121.out 1; have hfz12_2 := zF BK121.out 2; have hfz12_3 := zF BK121.out 3))
     go_ret2
     exact ⟨_, by first | rfl | (simp [errW_none, errW_some] <;> rfl) | (simp [*, errW_none, errW_some] <;> rfl), by first | exact Kd.R_nil _ _ _ _ _ | exact Kd.N_nil _ _ _ _ _ | exact Kd.V_nil _ _ _ _ _ | exact Kd.Q_nil _ _ _ _ _ | exact Kd.S_nil _ _ _ _ _, by repeat (first | exact HB.out | apply zA | apply zB | apply zD | refine zJ ?_ GE121.out)⟩
   ·rw [if_neg c2] at H
    have c2b0 : decide (x5_1 < (a0.size : Int)) = false := decide_eq_false c2
    clear c2
    simp only [Option.some.injEq, Prod.mk.injEq] at H
    obtain ⟨rfl, rfl⟩ := H
    go_wp2
    go_ret2
    exact ⟨_, by first | rfl | (simp [errW_none, errW_some] <;> rfl) | (simp [*, errW_none, errW_some] <;> rfl), by (with_reducible repeat (first | apply zM | apply zN | apply zO)); exact HO_4.out, by repeat (first | exact HB.out | apply zA | apply zB | apply zD)⟩
def ins_Size.f (k : Nat) (a0 : Int) : Option (Int) := (ins_shapeOf.f a0).bind fun t125 => ((ins_shape_size.f k t125).bind fun t126 => (some t126))
set_option maxHeartbeats 8000000 in
set_option maxRecDepth 100000 in
theorem ins_Size.calls (k : Nat) (a0 : Int) (r : Int) (w : World) (hG : Glob w) (h : ins_Size.f k a0 = some r) :
 Calls Tryd.prog 53 #[.int .i64 a0] w fun e w' => e = .returned (.int .i64 r) ∧ Drawn0 w w' := by
 have HG := z4 hG
 clear hG
 have H : ((ins_shapeOf.f a0).bind fun t125 => ((ins_shape_size.f k t125).bind fun t126 => (some t126))) = some r := h
 clear h
 replace H := z8 H
 obtain ⟨t125, A20, H⟩ := H
 replace H : ((ins_shape_size.f k t125).bind fun t126 => (some t126)) = some r := H
 have A2 := z4 A20
 clear A20
 replace H := z8 H
 obtain ⟨t126, A30, H⟩ := H
 replace H : (some t126) = some r := H
 have A3 := z4 A30
 clear A30
 obtain rfl := Option.some.inj H
 go_enter Tryd.func53, Tryd.ntmps53
 go_wp2_with (first | ((with_reducible refine gate_callee (f := 76) rfl ?_); refine goesL_ (some 4) rfl rfl Tryd.func76 (by kernel_rfl) rfl #[.int .i64 a0] rfl (by (try simp only [z9, List.map_cons, List.map_nil]); first | done | rfl | (simp only [z9a, z9b]; rfl)) ?_; (with_reducible refine (ins_shapeOf.calls a0 t125 _ (HG.out.below (by first | exact Below.refl _ _ | (repeat (first | exact HB.out | apply zA | apply zB | apply zD))) rfl) A2.out).mono ?_); rintro e w' ⟨rfl, ⟨nd, rfl⟩⟩; refine ⟨_, rfl, ?_⟩) | ((with_reducible refine gate_callee (f := 77) rfl ?_); refine goesL_ (some 5) rfl rfl Tryd.func77 (by kernel_rfl) rfl #[.int .u8 t125] rfl (by (try simp only [z9, List.map_cons, List.map_nil]); first | done | rfl | (simp only [z9a, z9b]; rfl)) ?_; (with_reducible refine (ins_shape_size.calls k t125 t126 _ A3.out).mono ?_); rintro e w' ⟨rfl, ⟨nd, rfl⟩⟩; refine ⟨_, rfl, ?_⟩))
 go_ret
 exact ⟨by first | rfl | (simp; done) | (simp [*]; done), by repeat (first | exact Drawn0.refl _ | apply Drawn0.step)⟩
end Go.Proofs.YtimhcpmfhebbhaaDoor.M
namespace Go.Proofs.YtimhcpmfhebbhaaDoor.Ins
open Go.RowKit Go.Proofs.YtimhcpmfhebbhaaDoor.M Go.Proofs.YtimhcpmfhebbhaaDoor.Num Go.Proofs.YtimhcpmfhebbhaaDoor.Seven Go.Proofs.YtimhcpmfhebbhaaDoor.Word1 Go.Proofs.YtimhcpmfhebbhaaDoorW.PrintWords Go.Proofs.YtimhcpmfhebbhaaDoorW.PrintLast
def shp (op : Int) : Int := if op < 0 then 0 else if op ≥ 34 then 0 else rd shapeTab op
def regs (s : Int) : Int := if s = 2 ∨ s = 3 then 2 else if s = 1 ∨ s = 4 ∨ s = 8 ∨ s = 9 then 1 else 0
def width (s : Int) : Int := if s = 1 then 8 else if s = 3 ∨ s = 4 ∨ s = 5 then 4 else if s = 7 ∨ s = 8 ∨ s = 10 then 1 else 0
def size (s : Int) : Int := if s = 0 then 0 else if regs s > 0 then 2 + width s else 1 + width s
theorem shp_range (op : Int) : 0 ≤ shp op ∧ shp op ≤ 10 := by
 unfold shp
 by_cases h0 : op < 0
 ·rw [if_pos h0]; omega
 ·rw [if_neg h0]
  by_cases h1 : op ≥ 34
  ·rw [if_pos h1]; omega
  ·rw [if_neg h1]
   have key : ∀ i : Fin 34, 0 ≤ rd shapeTab (i.val : Int) ∧ rd shapeTab (i.val : Int) ≤ 10 := by decide +kernel
   have h := key ⟨op.toNat, by omega⟩
   simp only at h
   rw [show ((op.toNat : Nat) : Int) = op by omega] at h
   exact h
theorem shp_pos {op : Int} (h : shp op ≠ 0) : 0 ≤ op ∧ op < 34 := by
 unfold shp at h
 by_cases h0 : op < 0
 ·rw [if_pos h0] at h; omega
 ·rw [if_neg h0] at h
  by_cases h1 : op ≥ 34
  ·rw [if_pos h1] at h; omega
  ·omega
theorem shapeOf_f (op : Int) : ins_shapeOf.f op = some (shp op) := by
 unfold ins_shapeOf.f shp
 by_cases h0 : op < 0
 ·rw [if_pos h0, if_pos h0]
 ·rw [if_neg h0, if_neg h0]
  by_cases h1 : op ≥ 34
  ·rw [if_pos h1, if_pos h1]
  ·rw [if_neg h1, if_neg h1]
theorem eleven {s : Int} (h0 : 0 ≤ s) (h1 : s ≤ 10) : s = 0 ∨ s = 1 ∨ s = 2 ∨ s = 3 ∨ s = 4 ∨ s = 5 ∨ s = 6 ∨ s = 7 ∨ s = 8 ∨ s = 9 ∨ s = 10 := by omega
theorem registers_f {s : Int} (h0 : 0 ≤ s) (h1 : s ≤ 10) (k : Nat) : ins_shape_registers.f (k + 1) s = some (regs s) := by
 rcases eleven h0 h1 with rfl | rfl | rfl | rfl | rfl | rfl | rfl | rfl | rfl | rfl | rfl <;> rfl
theorem width_f {s : Int} (h0 : 0 ≤ s) (h1 : s ≤ 10) (k : Nat) : ins_shape_width.f (k + 1) s = some (width s) := by
 rcases eleven h0 h1 with rfl | rfl | rfl | rfl | rfl | rfl | rfl | rfl | rfl | rfl | rfl <;> rfl
theorem size_f {s : Int} (h0 : 0 ≤ s) (h1 : s ≤ 10) (k : Nat) : ins_shape_size.f (k + 1) s = some (size s) := by
 unfold ins_shape_size.f
 rw [registers_f h0 h1, width_f h0 h1]
 rcases eleven h0 h1 with rfl | rfl | rfl | rfl | rfl | rfl | rfl | rfl | rfl | rfl | rfl <;> decide +kernel
theorem Size_f (op : Int) (k : Nat) : ins_Size.f (k + 1) op = some (size (shp op)) := by
 unfold ins_Size.f
 rw [shapeOf_f]
 simp only [Option.bind_some]
 rw [size_f (shp_range op).1 (shp_range op).2]
 rfl
theorem isReg_f (a : Int) : ins_isRegister.f a = some (decide (0 ≤ a ∧ a < 8)) := by
 unfold ins_isRegister.f
 by_cases h : a ≥ 0
 ·rw [if_pos h]; congr 1; simp; omega
 ·rw [if_neg h]; congr 1; simp; omega
/-- The fields are such as a form has. -/
def May (op a b n : Int) : Prop :=
 shp op ≠ 0 ∧ 0 ≤ a ∧ a < 8 ∧ 0 ≤ b ∧ b < 8 ∧ (regs (shp op) < 2 → b = 0) ∧ (regs (shp op) < 1 → a = 0) ∧ (width (shp op) = 0 → n = 0)
instance (op a b n : Int) : Decidable (May op a b n) := by unfold May; exact inferInstance
/-- The number fits. -/
def NFits (op n : Int) : Prop := ¬ (shp op = 10 ∧ n < 0) ∧ (width (shp op) > 0 → Fits n (width (shp op)))
instance (op n : Int) : Decidable (NFits op n) := by unfold NFits; exact inferInstance
def regL (s a b : Int) : List Int := if regs s = 1 then [a] else if regs s = 2 then [16 * a + b] else []
/-- An instruction's form. -/
def formL (op a b n : Int) : List Int := op :: (regL (shp op) a b ++ leL n (width (shp op)).toNat)
/-- What Encode answers. -/
def encR (op a b n : Int) : ByteArray × Int :=
 if May op a b n then if NFits op n then (strOfNums (formL op a b n), 0) else (⟨#[]⟩, 7) else (⟨#[]⟩, 1)
theorem regL_len (s a b : Int) : ((regL s a b).length : Int) = if regs s > 0 then 1 else 0 := by
 unfold regL regs
 by_cases h2 : s = 2 ∨ s = 3
 ·simp [h2]
 ·by_cases h1 : s = 1 ∨ s = 4 ∨ s = 8 ∨ s = 9
  ·simp [h2, h1]
  ·simp [h2, h1]
theorem width_nonneg (s : Int) : 0 ≤ width s ∧ width s ≤ 8 := by
 unfold width
 split
 ·omega
 ·split
  ·omega
  ·split <;> omega
theorem formL_len (op a b n : Int) (h : shp op ≠ 0) : ((formL op a b n).length : Int) = size (shp op) := by
 unfold formL size
 have h1 := regL_len (shp op) a b
 have hw := width_nonneg (shp op)
 rw [List.length_cons, List.length_append, leL_len, if_neg h]
 split at h1
 ·rename_i hr; rw [if_pos hr]; omega
 ·rename_i hr; rw [if_neg hr]; omega
theorem formL_bs {op a b n : Int} (h : May op a b n) : Bs (formL op a b n) := by
 obtain ⟨h0, ha0, ha1, hb0, hb1, _⟩ := h
 have hop := shp_pos h0
 unfold formL regL
 refine Bs.cons (by omega) (by omega) (Bs.append ?_ (leL_bs _ _))
 split
 ·exact Bs.nil.cons (by omega) (by omega)
 ·split
  ·exact Bs.nil.cons (by omega) (by omega)
  ·exact Bs.nil
end Go.Proofs.YtimhcpmfhebbhaaDoor.Ins
namespace Go.Proofs.YtimhcpmfhebbhaaDoor.Ins
open Go.RowKit Go.Proofs.YtimhcpmfhebbhaaDoor.M Go.Proofs.YtimhcpmfhebbhaaDoor.Num Go.Proofs.YtimhcpmfhebbhaaDoor.Seven Go.Proofs.YtimhcpmfhebbhaaDoor.Word1 Go.Proofs.YtimhcpmfhebbhaaDoorW.PrintWords Go.Proofs.YtimhcpmfhebbhaaDoorW.PrintLast
/-- A number out of some bytes. -/
def numV (l : List Int) : Int :=
 if l.length = 1 then (unleL l + 128) % 256 - 128
 else if l.length = 4 then (unleL l + 2147483648) % 4294967296 - 2147483648
 else if l.length = 8 then wrap64 (unleL l)
 else 0
theorem numR_V (s : ByteArray) : (numR s).1 = numV (bytesOf s) := by
 unfold numR numV
 rw [bytesOf_length]
 split
 ·rfl
 ·split
  ·rfl
  ·split <;> rfl
theorem bytesOf_extract (s : ByteArray) (i j : Nat) : bytesOf (s.extract i j) = ((bytesOf s).drop i).take (j - i) := by
 unfold bytesOf
 rw [ByteArray.data_extract, Array.toList_extract, List.extract_eq_take_drop, List.map_take, List.map_drop]
/-- The registers that stand in the byte behind the first one. -/
def regsOf (s c : Int) : Int × Int := if regs s = 1 then (c, 0) else if regs s = 2 then (c / 16, c % 16) else (0, 0)
/-- The number that stands behind the registers. -/
def numOf (s : Int) (l : List Int) : Int := if width s > 0 then numV ((l.drop (size s - width s).toNat).take (width s).toNat) else 0
/-- The instruction whose form some bytes begin with. -/
def decL : List Int → Option (Int × Int × Int × Int)
 | [] => none
 | op :: r =>
  if shp op = 0 ∨ ((op :: r).length : Int) < size (shp op) then none
  else if (regsOf (shp op) (r.getD 0 0)).1 < 8 ∧ (regsOf (shp op) (r.getD 0 0)).2 < 8 ∧ ¬ (shp op = 10 ∧ numOf (shp op) (op :: r) < 0) then
   some (op, (regsOf (shp op) (r.getD 0 0)).1, (regsOf (shp op) (r.getD 0 0)).2, numOf (shp op) (op :: r))
  else none
/-- What Decode answers. -/
def decR (s : ByteArray) (at_ : Int) : Int × Int × Int × Int × Int × Int :=
 if at_ < 0 ∨ at_ > s.size then (0, 0, 0, 0, 0, 1) else match decL ((bytesOf s).drop at_.toNat) with
 | none => (0, 0, 0, 0, 0, 9)
 | some (op, a, b, n) => (op, a, b, n, at_ + size (shp op), 0)
theorem and15 (b : Int) (h0 : 0 ≤ b) (h1 : b < 256) : bits .and .u8 b 15 = b % 16 := u8_and15 b h0 h1
theorem getD_next (s : ByteArray) (p : Nat) (h : p + 1 < s.size) : ((bytesOf s).drop (p + 1)).getD 0 0 = bt s (p + 1 : Nat) := by
 rw [bt_drop s (p + 1) h]
 rfl
theorem width_size {s : Int} (h : s ≠ 0) : 1 + width s ≤ size s ∧ size s ≤ 2 + width s ∧ (regs s > 0 → size s = 2 + width s) := by
 unfold size
 rw [if_neg h]
 split <;> omega
attribute [local irreducible] shp regs width size numV unleL bt bytesOf
theorem lo_eq {p : Nat} {sz w : Int} (hp : p ≤ 140737488351232) (h1 : w ≤ sz) (h2 : sz ≤ 100) (h0 : 0 ≤ w) : wrap64 ((p : Int) + sz - w) = ((p + (sz - w).toNat : Nat) : Int) := by
 rw [wrap64_id (by omega) (by omega)]
 omega
theorem dec_j3 (k : Nat) (s next op a b n : Int) (ha : 0 ≤ a) (hb : 0 ≤ b) :
 ins_Decode.j3 (k + 1) s next op a b n = some (if a < 8 ∧ b < 8 ∧ ¬ (s = 10 ∧ n < 0) then (op, a, b, n, next, 0) else (0, 0, 0, 0, 0, 9)) := by
 simp only [ins_Decode.j3]
 rw [isReg_f, isReg_f]
 simp only [Option.bind_some, decide_eq_true_eq]
 by_cases h1 : a < 8
 ·rw [if_pos ⟨ha, h1⟩]
  by_cases h2 : b < 8
  ·rw [if_pos ⟨hb, h2⟩]
   by_cases h3 : s = 10
   ·rw [if_pos h3]
    by_cases h4 : n < 0
    ·rw [if_pos h4, if_neg (fun h => h.2.2 ⟨h3, h4⟩)]
    ·rw [if_neg h4, if_pos ⟨h1, h2, fun h => h4 h.2⟩]
   ·rw [if_neg h3, if_pos ⟨h1, h2, fun h => h3 h.1⟩]
  ·rw [if_neg (fun h => h2 h.2), if_neg (fun h => h2 h.2.1)]
 ·rw [if_neg (fun h => h1 h.2), if_neg (fun h => h1 h.1)]
theorem dec_f (s : ByteArray) (at_ : Int) (hs : s.size ≤ 140737488351232) (k : Nat) (hk : 20 < k) : ins_Decode.f k s at_ = some (decR s at_) := by
 obtain ⟨k, rfl⟩ : ∃ m, k = m + 4 := ⟨k - 4, by omega⟩
 unfold ins_Decode.f decR
 by_cases h0 : at_ < 0
 ·rw [if_pos h0, if_pos (.inl h0)]
  simp [ins_Decode.j0]
 rw [if_neg h0]
 by_cases h1 : at_ > (s.size : Int)
 ·have e : decide (at_ > (s.size : Int)) = true := decide_eq_true h1
  rw [e, if_pos (.inr h1)]
  simp [ins_Decode.j0]
 have e : decide (at_ > (s.size : Int)) = false := decide_eq_false h1
 rw [e, if_neg (by omega)]
 obtain ⟨p, rfl⟩ := Int.eq_ofNat_of_zero_le (show 0 ≤ at_ by omega)
 rw [Int.toNat_natCast]
 simp only [ins_Decode.j0, Bool.false_eq_true, if_false]
 by_cases h2 : (p : Int) = (s.size : Int)
 ·rw [if_pos h2, List.drop_eq_nil_of_le (by rw [bytesOf_length]; omega)]
  rfl
 have hlt : p < s.size := by omega
 rw [if_neg h2, if_pos (by omega), if_pos (by omega)]
 have hbr := bt_range s p
 have hw : wrap64 (bt s p) = bt s p := wrap64_id (by omega) (by omega)
 rw [hw, shapeOf_f, bt_drop s p hlt]
 simp only [Option.bind_some, decL]
 have hr := shp_range (bt s p)
 generalize hop : bt s p = op at *
 have hlen : ((op :: (bytesOf s).drop (p + 1)).length : Int) = (s.size : Int) - p := by
  rw [List.length_cons, z9a, bytesOf_length]; omega
 rw [hlen]
 by_cases hz : shp op = 0
 ·rw [if_pos hz, if_pos (.inl hz)]
  simp [ins_Decode.j1]
 rw [if_neg hz, size_f hr.1 hr.2]
 simp only [Option.bind_some]
 have hsz := width_size hz
 have hwn := width_nonneg (shp op)
 rw [wrap64_id (n := (s.size : Int) - p) (by omega) (by omega)]
 by_cases hl : (s.size : Int) - p < size (shp op)
 ·have e1 : decide ((s.size : Int) - p < size (shp op)) = true := decide_eq_true hl
  rw [e1, if_pos (.inr hl)]
  simp [ins_Decode.j1]
 have e1 : decide ((s.size : Int) - p < size (shp op)) = false := decide_eq_false hl
 rw [e1, if_neg (by omega)]
 simp only [ins_Decode.j1, Bool.false_eq_true, if_false]
 rw [size_f hr.1 hr.2, registers_f hr.1 hr.2]
 simp only [Option.bind_some]
 have hnx : wrap64 ((p : Int) + size (shp op)) = p + size (shp op) := by
  exact wrap64_id (by omega) (by omega)
 have hp1 : wrap64 ((p : Int) + 1) = ((p + 1 : Nat) : Int) := by rw [wrap64_id (by omega) (by omega)]; omega
 rw [hnx, hp1]
 clear e e1 hlen hnx hp1 hw hbr
 -- the number, and the end, in one form
 have tail : ∀ a b : Int, 0 ≤ a → 0 ≤ b → ins_Decode.j2 (k + 2) s (shp op) (p + size (shp op)) op a b 0 =
  some (if a < 8 ∧ b < 8 ∧ ¬ (shp op = 10 ∧ numOf (shp op) (op :: (bytesOf s).drop (p + 1)) < 0) then (op, a, b, numOf (shp op) (op :: (bytesOf s).drop (p + 1)), (p : Int) + size (shp op), 0) else (0, 0, 0, 0, 0, 9)) := by
  intro a b ha hb
  simp only [ins_Decode.j2]
  rw [width_f hr.1 hr.2]
  simp only [Option.bind_some]
  unfold numOf
  by_cases hp : width (shp op) > 0
  ·have hlo : wrap64 ((p : Int) + size (shp op) - width (shp op)) = ((p + (size (shp op) - width (shp op)).toNat : Nat) : Int) := lo_eq (by omega) (by omega) (by omega) (by omega)
   rw [if_pos hp, if_pos hp, hlo, if_pos (by omega), if_pos (by omega), if_pos (by omega), Int.toNat_natCast]
   have hsx : (s.extract (p + (size (shp op) - width (shp op)).toNat) ((p : Int) + size (shp op)).toNat).size = (width (shp op)).toNat := by
    rw [ByteArray.size_extract]
    omega
   have hbx := bytesOf_extract s (p + (size (shp op) - width (shp op)).toNat) ((p : Int) + size (shp op)).toNat
   generalize s.extract (p + (size (shp op) - width (shp op)).toNat) ((p : Int) + size (shp op)).toNat = X at hsx hbx ⊢
   have hx1 : X.size ≤ 8 := by omega
   clear hsx
   have hnum : word_Number.f (k + 1) X = some (numR X) := number_f X (Nat.le_trans hx1 (by decide)) (k + 1) (by omega)
   rw [hnum]
   simp only [Option.bind_some]
   rw [dec_j3 _ _ _ _ _ _ _ ha hb, numR_V, hbx]
   have e3 : ((bytesOf s).drop (p + (size (shp op) - width (shp op)).toNat)).take (((p : Int) + size (shp op)).toNat - (p + (size (shp op) - width (shp op)).toNat)) =
    ((op :: (bytesOf s).drop (p + 1)).drop (size (shp op) - width (shp op)).toNat).take (width (shp op)).toNat := by
    rw [show op :: (bytesOf s).drop (p + 1) = (bytesOf s).drop p by rw [bt_drop s p hlt, hop], List.drop_drop]
    congr 1
    omega
   rw [e3]
  ·rw [if_neg hp, if_neg hp, dec_j3 _ _ _ _ _ _ _ ha hb]
 have hn1 : regs (shp op) > 0 → p + 1 < s.size := by
  intro h
  have := hsz.2.2 h
  omega
 have fin : ∀ q : Int × Int, 0 ≤ q.1 → 0 ≤ q.2 → regsOf (shp op) (((bytesOf s).drop (p + 1)).getD 0 0) = q → ins_Decode.j2 (k + 2) s (shp op) (p + size (shp op)) op q.1 q.2 0 =
  some (match (if (regsOf (shp op) (((bytesOf s).drop (p + 1)).getD 0 0)).1 < 8 ∧ (regsOf (shp op) (((bytesOf s).drop (p + 1)).getD 0 0)).2 < 8 ∧ ¬ (shp op = 10 ∧ numOf (shp op) (op :: (bytesOf s).drop (p + 1)) < 0) then
   some (op, (regsOf (shp op) (((bytesOf s).drop (p + 1)).getD 0 0)).1, (regsOf (shp op) (((bytesOf s).drop (p + 1)).getD 0 0)).2, numOf (shp op) (op :: (bytesOf s).drop (p + 1))) else none : Option (Int × Int × Int × Int)) with
   | none => (0, 0, 0, 0, 0, 9)
   | some (op, a, b, n) => (op, a, b, n, (p : Int) + size (shp op), 0)) := by
  intro q h1 h2 hq
  rw [hq, tail q.1 q.2 h1 h2]
  split
  ·rfl
  ·rfl
 by_cases hr1 : regs (shp op) = 1
 ·have hb2 := bt_range s (p + 1 : Nat)
  rw [if_pos hr1, if_pos (by omega), if_pos (by have := hn1 (by omega); omega), wrap64_id (n := bt s (p + 1 : Nat)) (by omega) (by omega)]
  exact fin (bt s (p + 1 : Nat), 0) (by simp only; omega) (by simp) (by unfold regsOf; rw [if_pos hr1, getD_next s p (hn1 (by omega))])
 ·rw [if_neg hr1]
  by_cases hr2 : regs (shp op) = 2
  ·have hb2 := bt_range s (p + 1 : Nat)
   rw [if_pos hr2, if_pos (by omega), if_pos (by have := hn1 (by omega); omega), and15 _ (by omega) (by omega), wrap64_id (n := bt s (p + 1 : Nat) / 16) (by omega) (by omega), wrap64_id (n := bt s (p + 1 : Nat) % 16) (by omega) (by omega)]
   exact fin (bt s (p + 1 : Nat) / 16, bt s (p + 1 : Nat) % 16) (by simp only; omega) (by simp only; omega) (by unfold regsOf; rw [if_neg hr1, if_pos hr2, getD_next s p (hn1 (by omega))])
  ·rw [if_neg hr2]
   exact fin (0, 0) (by simp) (by simp) (by unfold regsOf; rw [if_neg hr1, if_neg hr2])
end Go.Proofs.YtimhcpmfhebbhaaDoor.Ins
namespace Go.Proofs.YtimhcpmfhebbhaaDoor.Ins
open Go.RowKit Go.Proofs.YtimhcpmfhebbhaaDoor.M Go.Proofs.YtimhcpmfhebbhaaDoor.Num Go.Proofs.YtimhcpmfhebbhaaDoor.Seven Go.Proofs.YtimhcpmfhebbhaaDoor.Word1 Go.Proofs.YtimhcpmfhebbhaaDoorW.PrintWords Go.Proofs.YtimhcpmfhebbhaaDoorW.PrintLast
theorem width_cases (s : Int) : width s = 0 ∨ width s = 1 ∨ width s = 4 ∨ width s = 8 := by
 unfold width
 split
 ·omega
 ·split
  ·omega
  ·split <;> omega
theorem regs_cases (s : Int) : regs s = 0 ∨ regs s = 1 ∨ regs s = 2 := by
 unfold regs
 split
 ·omega
 ·split <;> omega
theorem numV_leL {n w : Int} (h0 : -9223372036854775808 ≤ n) (h1 : n < 9223372036854775808) (hF : Fits n w) : numV (leL n w.toNat) = n := by
 have h := num_bytes n w h0 h1 hF
 have hz : w = 1 ∨ w = 4 ∨ w = 8 := by unfold Fits at hF; omega
 unfold bytesR at h
 rw [if_pos hz, if_pos hF] at h
 have h2 := numR_V (strOfNums (leL n w.toNat))
 rw [h, bytesOf_str (leL_bs _ _)] at h2
 exact h2.symm
theorem numV_fits {l : List Int} {w : Int} (hb : Bs l) (hl : (l.length : Int) = w) (hw : w = 1 ∨ w = 4 ∨ w = 8) : Fits (numV l) w ∧ leL (numV l) w.toNat = l ∧ -9223372036854775808 ≤ numV l ∧ numV l < 9223372036854775808 := by
 have hr := unleL_range l hb
 have e := leL_unleL l hb
 unfold numV Fits
 rcases hw with rfl | rfl | rfl
 ·have h1 : l.length = 1 := by omega
  rw [if_pos h1]
  rw [h1] at hr e
  have e2 := leL_mod ((unleL l + 128) % 256 - 128) 1 1 (by omega)
  have e3 := leL_mod (unleL l) 1 1 (by omega)
  have e4 : ((unleL l + 128) % 256 - 128) % 256 ^ 1 = unleL l % 256 ^ 1 := by simp
  rw [e4, e3, e] at e2
  exact ⟨by omega, e2.symm, by omega, by omega⟩
 ·have h1 : l.length = 4 := by omega
  rw [if_neg (by omega), if_pos h1]
  rw [h1] at hr e
  have p4 : (256 : Int) ^ 4 = 4294967296 := by decide
  have e2 := leL_mod ((unleL l + 2147483648) % 4294967296 - 2147483648) 4 4 (by omega)
  have e3 := leL_mod (unleL l) 4 4 (by omega)
  have e4 : ((unleL l + 2147483648) % 4294967296 - 2147483648) % 256 ^ 4 = unleL l % 256 ^ 4 := by rw [p4]; omega
  rw [e4, e3, e] at e2
  exact ⟨by omega, e2.symm, by omega, by omega⟩
 ·have h1 : l.length = 8 := by omega
  rw [if_neg (by omega), if_neg (by omega), if_pos h1]
  rw [h1] at hr e
  have p8 : (256 : Int) ^ 8 = 18446744073709551616 := by decide
  have e2 := leL_mod (wrap64 (unleL l)) 8 8 (by omega)
  have e3 := leL_mod (unleL l) 8 8 (by omega)
  have e4 : wrap64 (unleL l) % 256 ^ 8 = unleL l % 256 ^ 8 := by rw [p8]; unfold wrap64; omega
  rw [e4, e3, e] at e2
  have hw := wrap64_range (unleL l)
  exact ⟨by omega, e2.symm, hw.1, hw.2⟩
attribute [local irreducible] shp regs width size numV unleL bt bytesOf
theorem decL_form {op a b n : Int} (r : List Int) (hM : May op a b n) (hN : NFits op n) (h0 : -9223372036854775808 ≤ n) (h1 : n < 9223372036854775808) : decL (formL op a b n ++ r) = some (op, a, b, n) := by
 have hM' := hM
 obtain ⟨hz, ha0, ha1, hb0, hb1, hB, hA, hW⟩ := hM
 have hl := formL_len op a b n hz
 have hsz := width_size hz
 have hwn := width_nonneg (shp op)
 have hrl := regL_len (shp op) a b
 have hnum : numOf (shp op) (formL op a b n ++ r) = n := by
  unfold numOf
  by_cases hp : width (shp op) > 0
  ·rw [if_pos hp]
   have e : (formL op a b n ++ r).drop (size (shp op) - width (shp op)).toNat = leL n (width (shp op)).toNat ++ r := by
    have e1 : formL op a b n ++ r = (op :: regL (shp op) a b) ++ (leL n (width (shp op)).toNat ++ r) := by unfold formL; simp
    have e2 : (size (shp op) - width (shp op)).toNat = (op :: regL (shp op) a b).length := by
     have e3 : ((formL op a b n).length : Int) = ((op :: regL (shp op) a b).length : Int) + width (shp op) := by
      unfold formL
      rw [List.length_cons, List.length_append, leL_len, List.length_cons]
      omega
     omega
    rw [e1, e2, List.drop_left]
   rw [e, List.take_left' (by rw [leL_len]), numV_leL h0 h1 (hN.2 hp)]
  ·rw [if_neg hp, hW (by omega)]
 have hregs : regsOf (shp op) ((regL (shp op) a b ++ leL n (width (shp op)).toNat ++ r).getD 0 0) = (a, b) := by
  unfold regsOf regL
  by_cases hr1 : regs (shp op) = 1
  ·rw [if_pos hr1, if_pos hr1, hB (by omega)]
   rfl
  ·rw [if_neg hr1, if_neg hr1]
   by_cases hr2 : regs (shp op) = 2
   ·rw [if_pos hr2, if_pos hr2]
    simp only [List.cons_append, List.nil_append, List.getD_cons_zero]
    congr 1 <;> omega
   ·rw [if_neg hr2]
    have hr0 : regs (shp op) < 1 := by
     have := regs_cases (shp op)
     omega
    rw [hA hr0, hB (by omega)]
 have ef : formL op a b n ++ r = op :: (regL (shp op) a b ++ leL n (width (shp op)).toNat ++ r) := by unfold formL; simp
 have hlen : ¬ (shp op = 0 ∨ ((formL op a b n ++ r).length : Int) < size (shp op)) := by
  rw [List.length_append]
  omega
 rw [ef] at hnum hlen ⊢
 simp only [decL]
 rw [if_neg hlen, hregs, hnum, if_pos ⟨ha1, hb1, hN.1⟩]
theorem decL_some {l : List Int} (hb : Bs l) {op a b n : Int} (h : decL l = some (op, a, b, n)) :
 May op a b n ∧ NFits op n ∧ -9223372036854775808 ≤ n ∧ n < 9223372036854775808 ∧ size (shp op) ≤ (l.length : Int) ∧ 0 < size (shp op) ∧ l.take (size (shp op)).toNat = formL op a b n := by
 cases l with
 | nil => cases h
 | cons c r =>
  simp only [decL] at h
  by_cases hc : shp c = 0 ∨ ((c :: r).length : Int) < size (shp c)
  ·rw [if_pos hc] at h; cases h
  ·rw [if_neg hc] at h
   have hz : shp c ≠ 0 := fun e => hc (.inl e)
   have hl : size (shp c) ≤ ((c :: r).length : Int) := by omega
   have hsz := width_size hz
   have hwn := width_nonneg (shp c)
   have hwc := width_cases (shp c)
   have hrc := regs_cases (shp c)
   by_cases hg : (regsOf (shp c) (r.getD 0 0)).1 < 8 ∧ (regsOf (shp c) (r.getD 0 0)).2 < 8 ∧ ¬ (shp c = 10 ∧ numOf (shp c) (c :: r) < 0)
   ·rw [if_pos hg] at h
    simp only [Option.some.injEq, Prod.mk.injEq] at h
    obtain ⟨rfl, ha, hbb, hn⟩ := h
    rw [hn, ha, hbb] at hg
    -- the byte behind the first one
    have hr0 : 0 < regs (shp c) → ∃ d r', r = d :: r' ∧ 0 ≤ d ∧ d < 256 := by
     intro hp
     have := hsz.2.2 hp
     cases r with
     | nil => simp at hl; omega
     | cons d r' => exact ⟨d, r', rfl, hb d (by simp)⟩
    have hab : regL (shp c) a b = r.take (regL (shp c) a b).length ∧ 0 ≤ a ∧ 0 ≤ b ∧ (regs (shp c) < 2 → b = 0) ∧ (regs (shp c) < 1 → a = 0) := by
     unfold regsOf at ha hbb
     unfold regL
     rcases hrc with h0 | h1 | h2
     ·rw [if_neg (by omega), if_neg (by omega)] at ha hbb
      rw [if_neg (by omega), if_neg (by omega)]
      refine ⟨by simp, by simp at ha; omega, by simp at hbb; omega, fun _ => by simp at hbb; omega, fun _ => by simp at ha; omega⟩
     ·obtain ⟨d, r', rfl, d0, d1⟩ := hr0 (by omega)
      rw [if_pos h1] at ha hbb
      rw [if_pos h1]
      simp only [List.getD_cons_zero] at ha hbb
      refine ⟨by simp [ha], by omega, by omega, fun _ => by omega, fun _ => by omega⟩
     ·obtain ⟨d, r', rfl, d0, d1⟩ := hr0 (by omega)
      rw [if_neg (by omega), if_pos h2] at ha hbb
      rw [if_neg (by omega), if_pos h2]
      simp only [List.getD_cons_zero] at ha hbb
      refine ⟨by simp; omega, by omega, by omega, fun _ => by omega, fun _ => by omega⟩
    obtain ⟨hreg, ha0, hb0, hB, hA⟩ := hab
    clear hr0
    have hrl := regL_len (shp c) a b
    have hrs : ((regL (shp c) a b).length : Int) = size (shp c) - width (shp c) - 1 := by
     by_cases hp : regs (shp c) > 0
     ·rw [if_pos hp] at hrl; have := hsz.2.2 hp; omega
     ·rw [if_neg hp] at hrl
      have : size (shp c) = 1 + width (shp c) := by
       unfold size
       rw [if_neg hz, if_neg hp]
      omega
    -- the number
    have hnum : -9223372036854775808 ≤ n ∧ n < 9223372036854775808 ∧ (width (shp c) > 0 → Fits n (width (shp c))) ∧ (width (shp c) = 0 → n = 0) ∧ leL n (width (shp c)).toNat = (r.drop (regL (shp c) a b).length).take (width (shp c)).toNat := by
     unfold numOf at hn
     by_cases hp : width (shp c) > 0
     ·rw [if_pos hp] at hn
      have e : (c :: r).drop (size (shp c) - width (shp c)).toNat = r.drop (regL (shp c) a b).length := by
       rw [show (size (shp c) - width (shp c)).toNat = (regL (shp c) a b).length + 1 by omega]
       rfl
      rw [e] at hn
      have hlen : (((r.drop (regL (shp c) a b).length).take (width (shp c)).toNat).length : Int) = width (shp c) := by
       rw [z9b, z9a]
       simp only [List.length_cons] at hl
       omega
      have hbs : Bs ((r.drop (regL (shp c) a b).length).take (width (shp c)).toNat) := Bs.take (Bs.drop (fun x hx => hb x (List.mem_cons_of_mem _ hx)) _) _
      obtain ⟨g1, g2, g3, g4⟩ := numV_fits hbs hlen (by omega)
      rw [hn] at g1 g2 g3 g4
      exact ⟨g3, g4, fun _ => g1, fun h => by omega, g2⟩
     ·rw [if_neg hp] at hn
      have hw0 : width (shp c) = 0 := by omega
      exact ⟨by omega, by omega, fun h => absurd h hp, fun _ => hn.symm, by rw [hw0]; simp [leL]⟩
    obtain ⟨n0, n1, hF, hW, hle⟩ := hnum
    refine ⟨⟨hz, ha0, hg.1, hb0, hg.2.1, hB, hA, hW⟩, ⟨hg.2.2, hF⟩, n0, n1, hl, by omega, ?_⟩
    unfold formL
    rw [show (size (shp c)).toNat = ((regL (shp c) a b).length + (width (shp c)).toNat) + 1 by omega, List.take_succ_cons, List.take_add, ← hle, ← hreg]
   ·rw [if_neg hg] at h; cases h
theorem size_le (s : Int) (h : 0 ≤ s ∧ s ≤ 10) : size s ≤ 10 := by
 rcases eleven h.1 h.2 with rfl | rfl | rfl | rfl | rfl | rfl | rfl | rfl | rfl | rfl | rfl <;> decide +kernel
end Go.Proofs.YtimhcpmfhebbhaaDoor.Ins
namespace Go.Proofs.YtimhcpmfhebbhaaDoor.Ins
open Go.RowKit Go.Proofs.YtimhcpmfhebbhaaDoor.M Go.Proofs.YtimhcpmfhebbhaaDoor.Num Go.Proofs.YtimhcpmfhebbhaaDoor.Seven Go.Proofs.YtimhcpmfhebbhaaDoor.Word1 Go.Proofs.YtimhcpmfhebbhaaDoorW.PrintWords Go.Proofs.YtimhcpmfhebbhaaDoorW.PrintLast
def I64 (n : Int) : Prop := -9223372036854775808 ≤ n ∧ n < 9223372036854775808
theorem toList_inj {s t : ByteArray} (h : s.toList = t.toList) : s = t := by
 rw [ByteArray.toList_eq, ByteArray.toList_eq] at h
 cases s; cases t
 simp only at h
 rw [Array.toList_inj.1 h]
theorem encR_ok {op a b n : Int} (h : (encR op a b n).2 = 0) : May op a b n ∧ NFits op n ∧ (encR op a b n).1 = strOfNums (formL op a b n) := by
 unfold encR at h ⊢
 by_cases hM : May op a b n
 ·rw [if_pos hM] at h ⊢
  by_cases hN : NFits op n
  ·rw [if_pos hN] at h ⊢
   exact ⟨hM, hN, rfl⟩
  ·rw [if_neg hN] at h; cases h
 ·rw [if_neg hM] at h; cases h
end Go.Proofs.YtimhcpmfhebbhaaDoor.Ins
namespace Go.Proofs.YtimhcpmfhebbhaaDoor.Ins
open Go.RowKit Go.Proofs.YtimhcpmfhebbhaaDoor.M Go.Proofs.YtimhcpmfhebbhaaDoor.Num Go.Proofs.YtimhcpmfhebbhaaDoor.Seven Go.Proofs.YtimhcpmfhebbhaaDoor.Word1 Go.Proofs.YtimhcpmfhebbhaaDoorW.PrintWords Go.Proofs.YtimhcpmfhebbhaaDoorW.PrintLast
theorem form_f (op : Int) (k : Nat) : cotterref03_form.f (k + 7) op = some (shp op) := by
 by_cases h0 : op < 0 ∨ op ≥ 34
 ·have hs : shp op = 0 := by
   unfold shp
   rcases h0 with h | h
   ·rw [if_pos h]
   ·rw [if_neg (by omega), if_pos h]
  rw [hs]
  have hn : ∀ c : Int, 0 ≤ c → c < 34 → (op == c) = false := by
   intro c h1 h2
   have : op ≠ c := by omega
   simpa using this
  have hn' : ∀ c : Int, 0 ≤ c → c < 34 → ¬ op = c := by
   intro c h1 h2
   omega
  have hj : cotterref03_form.j0 (k + 7) op false = some 0 := by
   simp only [cotterref03_form.j0, cotterref03_form.j1, cotterref03_form.j2, cotterref03_form.j3, cotterref03_form.j4, cotterref03_form.j5]
   simp only [hn 29 (by omega) (by omega), hn 22 (by omega) (by omega), hn 23 (by omega) (by omega), hn 32 (by omega) (by omega), hn 27 (by omega) (by omega), hn' 17 (by omega) (by omega), hn' 18 (by omega) (by omega), hn' 28 (by omega) (by omega),
    hn' 19 (by omega) (by omega), hn' 21 (by omega) (by omega), hn' 20 (by omega) (by omega), hn' 24 (by omega) (by omega), hn' 30 (by omega) (by omega), hn' 25 (by omega) (by omega), hn' 26 (by omega) (by omega), hn' 31 (by omega) (by omega), hn' 33 (by omega) (by omega),
    Bool.false_eq_true, if_false]
  unfold cotterref03_form.f
  rw [if_neg (by omega)]
  by_cases h2 : op ≥ 2
  ·rw [if_pos h2, decide_eq_false (by omega)]
   exact hj
  ·rw [if_neg h2]
   exact hj
 ·have key : ∀ i : Fin 34, cotterref03_form.f 7 (i.val : Int) = some (shp (i.val : Int)) := by decide +kernel
  have h := key ⟨op.toNat, by omega⟩
  simp only at h
  rw [show ((op.toNat : Nat) : Int) = op by omega] at h
  exact at_rounds (fun k => cotterref03_form.mono op k) (show 7 ≤ k + 7 by omega) h
theorem parts_f {s : Int} (h0 : 0 ≤ s) (h1 : s ≤ 10) (k : Nat) : cotterref03_parts.f (k + 1) s = some (decide (regs s > 0), decide (regs s = 2), width s) := by
 rcases eleven h0 h1 with rfl | rfl | rfl | rfl | rfl | rfl | rfl | rfl | rfl | rfl | rfl <;> rfl
theorem rSize_f (op : Int) (k : Nat) : cotterref03_Size.f (k + 7) op = some (size (shp op)) := by
 have hr := shp_range op
 unfold cotterref03_Size.f
 rw [form_f]
 simp only [Option.bind_some]
 generalize shp op = s at *
 by_cases hz : s = 0
 ·rw [if_pos hz]; subst hz; rfl
 ·rw [if_neg hz, parts_f hr.1 hr.2]
  simp only [Option.bind_some, decide_eq_true_eq]
  have hw := width_nonneg s
  unfold size
  rw [if_neg hz]
  by_cases hp : regs s > 0
  ·rw [if_pos hp, if_pos hp, wrap64_id (n := width s + 1) (by omega) (by omega), wrap64_id (by omega) (by omega)]
   congr 1
   omega
  ·rw [if_neg hp, if_neg hp, wrap64_id (by omega) (by omega)]
theorem renc_j2 (k : Nat) (hk : 14 < k) (s n : Int) (x : List Int) (op a b : Int) (hn0 : -9223372036854775808 ≤ n) (hn1 : n < 9223372036854775808) (hx : x.length < 1000) :
 cotterref03_Encode.j2 k (width s) (strOfNums x) op a b n = some (if width s > 0 → Fits n (width s) then (strOfNums (x ++ leL n (width s).toNat), 0) else (⟨#[]⟩, 7)) := by
 obtain ⟨k, rfl⟩ : ∃ m, k = m + 1 := ⟨k - 1, by omega⟩
 have hw := width_nonneg s
 have hwc := width_cases s
 simp only [cotterref03_Encode.j2]
 by_cases hp : width s > 0
 ·rw [if_pos hp, rbytes_f n (width s) hn0 hn1 _ (by omega)]
  simp only [Option.bind_some]
  have hz : width s = 1 ∨ width s = 4 ∨ width s = 8 := by omega
  unfold bytesR
  rw [if_pos hz]
  by_cases hF : Fits n (width s)
  ·rw [if_pos hF, if_pos (fun _ => hF)]
   simp only [if_true]
   rw [strOfNums_size, strOfNums_size, leL_len, if_pos (by omega), str_append]
  ·have hno : ¬ (width s > 0 → Fits n (width s)) := fun h => hF (h hp)
   rw [if_neg hF, if_neg hno]
   simp
 ·rw [if_neg hp, if_pos (fun h => absurd h hp), show (width s).toNat = 0 by omega]
  simp [leL]
theorem renc_j1 (k : Nat) (hk : 16 < k) (s n op a b : Int) (hop : 0 ≤ op ∧ op < 34) (ha : 0 ≤ a ∧ a < 8) (hb : 0 ≤ b ∧ b < 8) (hn0 : -9223372036854775808 ≤ n) (hn1 : n < 9223372036854775808) :
 cotterref03_Encode.j1 k (decide (regs s > 0)) (decide (regs s = 2)) (width s) false op a b n = some (if width s > 0 → Fits n (width s) then (strOfNums (op :: (regL s a b ++ leL n (width s).toNat)), 0) else (⟨#[]⟩, 7)) := by
 obtain ⟨k, rfl⟩ : ∃ m, k = m + 1 := ⟨k - 1, by omega⟩
 have hrc := regs_cases s
 simp only [cotterref03_Encode.j1, Bool.false_eq_true, if_false, Option.bind_some, decide_eq_true_eq]
 rw [show op % 256 = op by omega]
 unfold regL
 by_cases h2 : regs s = 2
 ·rw [if_pos h2, if_neg (show ¬ regs s = 1 by omega), if_pos h2, if_pos (by rw [strOfNums_size, strOfNums_size]; simp), str_append, renc_j2 k (by omega) s n _ op a b hn0 hn1 (by simp)]
  have e : wrap64 (wrap64 (16 * a) + b) % 256 = 16 * a + b := by
   rw [wrap64_id (n := 16 * a) (by omega) (by omega), wrap64_id (by omega) (by omega)]
   omega
  rw [e]
  simp
 ·rw [if_neg h2]
  by_cases h1 : regs s > 0
  ·rw [if_pos h1, if_pos (show regs s = 1 by omega), if_pos (by rw [strOfNums_size, strOfNums_size]; simp), str_append, renc_j2 k (by omega) s n _ op a b hn0 hn1 (by simp), show a % 256 = a by omega]
   simp
  ·rw [if_neg h1, if_neg (show ¬ regs s = 1 by omega), if_neg h2, renc_j2 k (by omega) s n _ op a b hn0 hn1 (by simp)]
   simp
theorem renc_f (k : Nat) (hk : 30 < k) (op a b n : Int) (hn0 : -9223372036854775808 ≤ n) (hn1 : n < 9223372036854775808) : cotterref03_Encode.f k op a b n = some (encR op a b n) := by
 obtain ⟨k, rfl⟩ : ∃ m, k = m + 7 := ⟨k - 7, by omega⟩
 have hr := shp_range op
 have hbad : ∀ c, ¬ May op a b n → c = true → cotterref03_Encode.j0 (k + 7) (shp op) (decide (regs (shp op) > 0)) (decide (regs (shp op) = 2)) (width (shp op)) c op a b n = some (encR op a b n) := by
  intro c hM hc
  subst hc
  unfold encR
  rw [if_neg hM]
  simp [cotterref03_Encode.j0]
 have hgood : May op a b n → cotterref03_Encode.j0 (k + 7) (shp op) (decide (regs (shp op) > 0)) (decide (regs (shp op) = 2)) (width (shp op)) false op a b n = some (encR op a b n) := by
  intro hM
  have hop := shp_pos hM.1
  have hj := renc_j1 (k + 6) (by omega) (shp op) n op a b hop ⟨hM.2.1, hM.2.2.1⟩ ⟨hM.2.2.2.1, hM.2.2.2.2.1⟩ hn0 hn1
  have htrue : cotterref03_Encode.j1 (k + 6) (decide (regs (shp op) > 0)) (decide (regs (shp op) = 2)) (width (shp op)) true op a b n = some (⟨#[]⟩, 7) := by simp [cotterref03_Encode.j1]
  unfold encR
  rw [if_pos hM]
  simp only [cotterref03_Encode.j0, Bool.false_eq_true, if_false]
  by_cases ht : shp op = 10
  ·rw [if_pos ht]
   by_cases hn : n < 0
   ·rw [if_pos hn, if_neg (fun h : NFits op n => h.1 ⟨ht, hn⟩)]
    exact htrue
   ·rw [if_neg hn]
    by_cases h127 : n > 127
    ·have hw1 : width (shp op) = 1 := by rw [ht]; rfl
     have hno : ¬ NFits op n := by
      intro h
      have := h.2 (by omega)
      rw [hw1] at this
      unfold Fits at this
      omega
     rw [decide_eq_true h127, if_neg hno]
     exact htrue
    ·rw [decide_eq_false h127, hj]
     by_cases hF : width (shp op) > 0 → Fits n (width (shp op))
     ·rw [if_pos hF, if_pos (show NFits op n from ⟨fun h => hn h.2, hF⟩)]; rfl
     ·rw [if_neg hF, if_neg (fun h : NFits op n => hF h.2)]
  ·rw [if_neg ht, hj]
   by_cases hF : width (shp op) > 0 → Fits n (width (shp op))
   ·rw [if_pos hF, if_pos (show NFits op n from ⟨fun h => ht h.1, hF⟩)]; rfl
   ·rw [if_neg hF, if_neg (fun h : NFits op n => hF h.2)]
 have hlast : (shp op ≠ 0 ∧ 0 ≤ a ∧ a < 8 ∧ 0 ≤ b ∧ b < 8 ∧ (regs (shp op) < 2 → b = 0) ∧ (regs (shp op) < 1 → a = 0)) →
  (if width (shp op) = 0 then cotterref03_Encode.j0 (k + 7) (shp op) (decide (regs (shp op) > 0)) (decide (regs (shp op) = 2)) (width (shp op)) (n != 0) op a b n else cotterref03_Encode.j0 (k + 7) (shp op) (decide (regs (shp op) > 0)) (decide (regs (shp op) = 2)) (width (shp op)) false op a b n) = some (encR op a b n) := by
  intro ⟨q1, q2, q3, q4, q5, q6, q7⟩
  by_cases hw : width (shp op) = 0
  ·rw [if_pos hw]
   by_cases hn : n = 0
   ·have e : (n != 0) = false := by simpa using hn
    rw [e]
    exact hgood ⟨q1, q2, q3, q4, q5, q6, q7, fun _ => hn⟩
   ·have e : (n != 0) = true := by simpa using hn
    exact hbad _ (fun h => hn (h.2.2.2.2.2.2.2 hw)) e
  ·rw [if_neg hw]
   exact hgood ⟨q1, q2, q3, q4, q5, q6, q7, fun h => absurd h hw⟩
 have hrc := regs_cases (shp op)
 unfold cotterref03_Encode.f
 rw [form_f]
 simp only [Option.bind_some]
 rw [parts_f (k := k + 6) hr.1 hr.2]
 simp only [Option.bind_some]
 by_cases h0 : shp op = 0
 ·rw [if_pos h0]
  exact hbad _ (fun h => h.1 h0) rfl
 rw [if_neg h0]
 by_cases a1 : a < 0
 ·rw [if_pos a1]; exact hbad _ (fun h => by have := h.2.1; omega) rfl
 rw [if_neg a1]
 by_cases a2 : a > 7
 ·rw [if_pos a2]; exact hbad _ (fun h => by have := h.2.2.1; omega) rfl
 rw [if_neg a2]
 by_cases b1 : b < 0
 ·rw [if_pos b1]; exact hbad _ (fun h => by have := h.2.2.2.1; omega) rfl
 rw [if_neg b1]
 by_cases b2 : b > 7
 ·rw [if_pos b2]; exact hbad _ (fun h => by have := h.2.2.2.2.1; omega) rfl
 rw [if_neg b2]
 simp only [decide_eq_true_eq]
 by_cases hp : regs (shp op) > 0
 ·rw [if_pos hp]
  by_cases h2 : regs (shp op) = 2
  ·rw [if_pos h2]
   exact hlast ⟨h0, by omega, by omega, by omega, by omega, fun h => by omega, fun h => by omega⟩
  ·rw [if_neg h2]
   by_cases hb0 : b = 0
   ·rw [if_pos hb0]
    exact hlast ⟨h0, by omega, by omega, by omega, by omega, fun _ => hb0, fun h => by omega⟩
   ·rw [if_neg hb0]
    exact hbad _ (fun h => hb0 (h.2.2.2.2.2.1 (by omega))) rfl
 ·rw [if_neg hp]
  have h2 : ¬ regs (shp op) = 2 := by omega
  by_cases ha0 : a = 0
  ·rw [if_pos ha0, if_neg h2]
   by_cases hb0 : b = 0
   ·rw [if_pos hb0]
    exact hlast ⟨h0, by omega, by omega, by omega, by omega, fun _ => hb0, fun _ => ha0⟩
   ·rw [if_neg hb0]
    exact hbad _ (fun h => hb0 (h.2.2.2.2.2.1 (by omega))) rfl
  ·rw [if_neg ha0]
   exact hbad _ (fun h => ha0 (h.2.2.2.2.2.2.1 (by omega))) rfl
end Go.Proofs.YtimhcpmfhebbhaaDoor.Ins
namespace Go.Proofs.YtimhcpmfhebbhaaDoor.Ins
open Go.RowKit Go.Proofs.YtimhcpmfhebbhaaDoor.M Go.Proofs.YtimhcpmfhebbhaaDoor.Num Go.Proofs.YtimhcpmfhebbhaaDoor.Seven Go.Proofs.YtimhcpmfhebbhaaDoor.Word1 Go.Proofs.YtimhcpmfhebbhaaDoorW.PrintWords Go.Proofs.YtimhcpmfhebbhaaDoorW.PrintLast
def formS (i : S79) : List Int := formL i.f0 i.f1 i.f2 i.f3
def OkS (i : S79) : Prop := May i.f0 i.f1 i.f2 i.f3 ∧ NFits i.f0 i.f3 ∧ I64 i.f3
def formsS (l : List S79) : List Int := l.flatMap formS
theorem formsS_cons (i : S79) (l : List S79) : formsS (i :: l) = formS i ++ formsS l := rfl
theorem formsS_append (a b : List S79) : formsS (a ++ b) = formsS a ++ formsS b := by simp [formsS]
theorem formS_pos {i : S79} (h : OkS i) : 0 < (formS i).length ∧ (formS i).length ≤ 10 := by
 have h1 := formL_len i.f0 i.f1 i.f2 i.f3 h.1.1
 have h2 := width_size h.1.1
 have h3 := width_nonneg (shp i.f0)
 have h4 := size_le _ (shp_range i.f0)
 unfold formS
 omega
theorem dec_ok (s : ByteArray) (p : Nat) (i : S79) (r : List Int) (hi : OkS i) (hp : p ≤ s.size) (h : (bytesOf s).drop p = formS i ++ r) : decR s p = (i.f0, i.f1, i.f2, i.f3, ((p + (formS i).length : Nat) : Int), 0) := by
 have hd := decL_form r hi.1 hi.2.1 hi.2.2.1 hi.2.2.2
 have hl := formL_len i.f0 i.f1 i.f2 i.f3 hi.1.1
 unfold decR
 rw [if_neg (by omega), Int.toNat_natCast, h]
 unfold formS
 rw [hd]
 simp only [Prod.mk.injEq, true_and, and_true]
 omega
/-- Either some instructions' forms stand from the place on, or none do, and All says so. -/
theorem all_total (s : ByteArray) (hs : s.size ≤ 140737488351232) : ∀ (m k p : Nat) (acc : List S79), s.size - p ≤ m → p ≤ s.size → acc.length + m < 4398046511104 → m + 30 < k →
 (∃ is : List S79, (bytesOf s).drop p = formsS is ∧ (∀ i ∈ is, OkS i) ∧ is.length ≤ m ∧ ins_All.l0 k s acc p = some (acc ++ is, 0)) ∨ (ins_All.l0 k s acc p = some ([], 9) ∧ ¬ ∃ is : List S79, (bytesOf s).drop p = formsS is ∧ ∀ i ∈ is, OkS i) := by
 intro m
 induction m with
 | zero =>
  intro k p acc hm hp ha hk
  obtain ⟨k, rfl⟩ : ∃ m, k = m + 1 := ⟨k - 1, by omega⟩
  refine .inl ⟨[], ?_, by simp, by simp, ?_⟩
  ·rw [List.drop_eq_nil_of_le (by rw [bytesOf_length]; omega)]; rfl
  ·simp only [ins_All.l0]
   rw [if_neg (by omega), List.append_nil]
 | succ m ih =>
  intro k p acc hm hp ha hk
  obtain ⟨k, rfl⟩ : ∃ m, k = m + 1 := ⟨k - 1, by omega⟩
  by_cases hlt : p < s.size
  ·simp only [ins_All.l0]
   rw [if_pos (by omega), dec_f s p hs k (by omega)]
   simp only [Option.bind_some]
   cases hd : decL ((bytesOf s).drop p) with
   | none =>
    have e : decR s p = (0, 0, 0, 0, 0, 9) := by
     unfold decR
     rw [if_neg (by omega), Int.toNat_natCast, hd]
    right
    rw [e, if_neg (by simp)]
    refine ⟨rfl, ?_⟩
    rintro ⟨is, h1, h2⟩
    cases is with
    | nil =>
     have h3 := congrArg List.length h1
     rw [z9a, bytesOf_length] at h3
     simp [formsS] at h3
     omega
    | cons i is =>
     rw [h1, formsS_cons] at hd
     have hi := h2 i (by simp)
     unfold formS at hd
     rw [decL_form _ hi.1 hi.2.1 hi.2.2.1 hi.2.2.2] at hd
     cases hd
   | some q =>
    obtain ⟨op, a, b, n⟩ := q
    obtain ⟨hM, hN, n0, n1, hl, hpos, htk⟩ := decL_some ((bytesOf_Bs s).drop p) hd
    have hI : OkS ⟨op, a, b, n⟩ := ⟨hM, hN, n0, n1⟩
    have hfl := formL_len op a b n hM.1
    have hsplit : (bytesOf s).drop p = formS ⟨op, a, b, n⟩ ++ (bytesOf s).drop (p + (formS ⟨op, a, b, n⟩).length) := by
     have e1 : (formS ⟨op, a, b, n⟩).length = (size (shp op)).toNat := by unfold formS; simp only; omega
     rw [e1, ← List.drop_drop]
     have e2 : formS ⟨op, a, b, n⟩ = ((bytesOf s).drop p).take (size (shp op)).toNat := htk.symm
     rw [e2, List.take_append_drop]
    have hlen : p + (formS ⟨op, a, b, n⟩).length ≤ s.size := by
     rw [z9a, bytesOf_length] at hl
     unfold formS
     simp only
     omega
    have hfp := formS_pos hI
    rw [dec_ok s p ⟨op, a, b, n⟩ _ hI hp hsplit]
    simp only [if_true]
    rw [if_pos (by omega)]
    rcases ih k (p + (formS ⟨op, a, b, n⟩).length) (acc ++ [⟨op, a, b, n⟩]) (by omega) hlen (by rw [List.length_append]; simp; omega) (by omega) with ⟨is, h1, h2, h3, h4⟩ | ⟨h1, h2⟩
    ·refine .inl ⟨⟨op, a, b, n⟩ :: is, ?_, ?_, by simp; omega, ?_⟩
     ·rw [hsplit, h1]; rfl
     ·intro i hi
      rcases List.mem_cons.1 hi with rfl | hi
      ·exact hI
      ·exact h2 i hi
     ·rw [h4]; simp
    ·refine .inr ⟨h1, ?_⟩
     rintro ⟨is, g1, g2⟩
     cases is with
     | nil =>
      have h3 := congrArg List.length g1
      rw [z9a, bytesOf_length] at h3
      simp [formsS] at h3
      omega
     | cons i is =>
      have hi := g2 i (by simp)
      have g3 := decL_form (formsS is) hi.1 hi.2.1 hi.2.2.1 hi.2.2.2
      rw [formsS_cons] at g1
      have e4 : formL i.f0 i.f1 i.f2 i.f3 ++ formsS is = (bytesOf s).drop p := g1.symm
      rw [e4, hd] at g3
      simp only [Option.some.injEq, Prod.mk.injEq] at g3
      obtain ⟨x1, x2, x3, x4⟩ := g3
      have e5 : formS ⟨op, a, b, n⟩ = formS i := by unfold formS; simp only [x1, x2, x3, x4]
      refine h2 ⟨is, ?_, fun j hj => g2 j (by simp [hj])⟩
      rw [e5, ← List.drop_drop, g1, List.drop_left]
  ·refine .inl ⟨[], ?_, by simp, by simp, ?_⟩
   ·rw [List.drop_eq_nil_of_le (by rw [bytesOf_length]; omega)]; rfl
   ·simp only [ins_All.l0]
    rw [if_neg (by omega), List.append_nil]
/-- Forms are read in one way alone. -/
theorem forms_inj : ∀ (a b : List S79), (∀ i ∈ a, OkS i) → (∀ i ∈ b, OkS i) → formsS a = formsS b → a = b := by
 intro a
 induction a with
 | nil =>
  intro b _ hb h
  cases b with
  | nil => rfl
  | cons j b =>
   have := (formS_pos (hb j (by simp))).1
   have h2 := congrArg List.length h
   rw [formsS_cons, List.length_append] at h2
   have hz : (formsS ([] : List S79)).length = 0 := rfl
   omega
 | cons i a ih =>
  intro b ha hb h
  cases b with
  | nil =>
   have := (formS_pos (ha i (by simp))).1
   have h2 := congrArg List.length h
   rw [formsS_cons, List.length_append] at h2
   have hz : (formsS ([] : List S79)).length = 0 := rfl
   omega
  | cons j b =>
   have hi := ha i (by simp)
   have hj := hb j (by simp)
   have g1 := decL_form (formsS a) hi.1 hi.2.1 hi.2.2.1 hi.2.2.2
   have g2 := decL_form (formsS b) hj.1 hj.2.1 hj.2.2.1 hj.2.2.2
   have h' : formL i.f0 i.f1 i.f2 i.f3 ++ formsS a = formL j.f0 j.f1 j.f2 j.f3 ++ formsS b := h
   rw [h', g2] at g1
   simp only [Option.some.injEq, Prod.mk.injEq] at g1
   obtain ⟨x1, x2, x3, x4⟩ := g1
   have e : i = j := by cases i; cases j; simp_all
   subst e
   rw [ih b (fun x hx => ha x (by simp [hx])) (fun x hx => hb x (by simp [hx])) (List.append_cancel_left h')]
theorem formsS_bs (l : List S79) (h : ∀ i ∈ l, OkS i) : Bs (formsS l) := by
 intro x hx
 obtain ⟨i, hi, hxi⟩ := List.mem_flatMap.1 hx
 exact formL_bs (h i hi).1 x hxi
/-- All of forms is what they are the forms of. -/
theorem all_forms (l : List S79) (h : ∀ i ∈ l, OkS i) (hl : (formsS l).length ≤ 4000000) (k : Nat) (hk : (formsS l).length + 40 < k) : ins_All.f k (strOfNums (formsS l)) = some (l, 0) := by
 unfold ins_All.f
 have e := bytesOf_str (formsS_bs l h)
 rcases all_total (strOfNums (formsS l)) (by rw [strOfNums_size]; omega) (formsS l).length k 0 [] (by rw [strOfNums_size]; omega) (by omega) (by simp; omega) (by omega) with ⟨is, h1, h2, _, h4⟩ | ⟨_, h2⟩
 ·rw [List.drop_zero, e] at h1
  have := forms_inj _ _ h h2 h1
  subst this
  simpa using h4
 ·exact absurd ⟨l, by rw [List.drop_zero, e], h⟩ h2
theorem all_f (s : ByteArray) (hs : s.size ≤ 4000000) (k : Nat) (hk : s.size + 40 < k) :
 (∃ is : List S79, bytesOf s = formsS is ∧ (∀ i ∈ is, OkS i) ∧ is.length ≤ s.size ∧ ins_All.f k s = some (is, 0)) ∨ ins_All.f k s = some ([], 9) := by
 unfold ins_All.f
 rcases all_total s (by omega) s.size k 0 [] (by omega) (by omega) (by simp; omega) (by omega) with ⟨is, h1, h2, h3, h4⟩ | ⟨h1, _⟩
 ·exact .inl ⟨is, by simpa using h1, h2, h3, by simpa using h4⟩
 ·exact .inr h1
end Go.Proofs.YtimhcpmfhebbhaaDoor.Ins
namespace Go.Proofs.YtimhcpmfhebbhaaDoor.Ins
open Go.RowKit Go.Proofs.YtimhcpmfhebbhaaDoor.M Go.Proofs.YtimhcpmfhebbhaaDoor.Num Go.Proofs.YtimhcpmfhebbhaaDoor.Seven Go.Proofs.YtimhcpmfhebbhaaDoor.Word1 Go.Proofs.YtimhcpmfhebbhaaDoorW.PrintWords Go.Proofs.YtimhcpmfhebbhaaDoorW.PrintLast
theorem enc_ok_iff {op a b n : Int} (hz : shp op ≠ 0) (ha : 0 ≤ a) (hb : 0 ≤ b) (hB : regs (shp op) < 2 → b = 0) (hA : regs (shp op) < 1 → a = 0) (hW : width (shp op) = 0 → n = 0) (hF : width (shp op) > 0 → Fits n (width (shp op))) :
 (encR op a b n).2 = 0 ↔ (a < 8 ∧ b < 8 ∧ ¬ (shp op = 10 ∧ n < 0)) := by
 constructor
 ·intro h
  obtain ⟨hM, hN, _⟩ := encR_ok h
  exact ⟨hM.2.2.1, hM.2.2.2.2.1, hN.1⟩
 ·intro ⟨h1, h2, h3⟩
  unfold encR
  rw [if_pos (show May op a b n from ⟨hz, ha, h1, hb, h2, hB, hA, hW⟩), if_pos (show NFits op n from ⟨h3, hF⟩)]
attribute [local irreducible] shp regs width size numV unleL bt bytesOf encR
theorem rdec_f (s : ByteArray) (at_ : Int) (hs : s.size ≤ 140737488351232) (k : Nat) (hk : 60 < k) : cotterref03_Decode.f k s at_ = some (decR s at_) := by
 obtain ⟨k, rfl⟩ : ∃ m, k = m + 12 := ⟨k - 12, by omega⟩
 unfold cotterref03_Decode.f decR
 by_cases h0 : at_ < 0
 ·rw [if_pos h0, if_pos (.inl h0)]
  simp [cotterref03_Decode.j0]
 rw [if_neg h0]
 by_cases h1 : at_ > (s.size : Int)
 ·have e : decide (at_ > (s.size : Int)) = true := decide_eq_true h1
  rw [e, if_pos (.inr h1)]
  simp [cotterref03_Decode.j0]
 have e : decide (at_ > (s.size : Int)) = false := decide_eq_false h1
 rw [e, if_neg (by omega)]
 obtain ⟨p, rfl⟩ := Int.eq_ofNat_of_zero_le (show 0 ≤ at_ by omega)
 rw [Int.toNat_natCast]
 simp only [cotterref03_Decode.j0, Bool.false_eq_true, if_false]
 by_cases h2 : (p : Int) = (s.size : Int)
 ·rw [if_pos h2, List.drop_eq_nil_of_le (by rw [bytesOf_length]; omega)]
  rfl
 have hlt : p < s.size := by omega
 rw [if_neg h2, if_pos (by omega), if_pos (by omega)]
 have hbr := bt_range s p
 have hw : wrap64 (bt s p) = bt s p := wrap64_id (by omega) (by omega)
 have hbs := (bytesOf_Bs s).drop (p + 1)
 rw [hw, rSize_f (k := k + 4), bt_drop s p hlt]
 simp only [Option.bind_some, decL]
 have hr := shp_range (bt s p)
 generalize hop : bt s p = op at *
 have hlen : ((op :: (bytesOf s).drop (p + 1)).length : Int) = (s.size : Int) - p := by
  rw [List.length_cons, z9a, bytesOf_length]; omega
 rw [hlen]
 by_cases hz : shp op = 0
 ·rw [hz, if_pos (show size 0 = 0 by with_unfolding_all rfl), if_pos (.inl rfl)]
  simp [cotterref03_Decode.j1]
 have hsz := width_size hz
 have hwn := width_nonneg (shp op)
 have hwc := width_cases (shp op)
 have hrc := regs_cases (shp op)
 have hs10 := size_le (shp op) hr
 rw [if_neg (by omega), wrap64_id (n := (p : Int) + size (shp op)) (by omega) (by omega)]
 by_cases hl : (s.size : Int) - p < size (shp op)
 ·have e1 : decide ((p : Int) + size (shp op) > (s.size : Int)) = true := decide_eq_true (by omega)
  rw [e1, if_pos (.inr hl)]
  simp [cotterref03_Decode.j1]
 have e1 : decide ((p : Int) + size (shp op) > (s.size : Int)) = false := decide_eq_false (by omega)
 rw [e1, if_neg (by omega)]
 simp only [cotterref03_Decode.j1, Bool.false_eq_true, if_false]
 rw [form_f (k := k + 3)]
 simp only [Option.bind_some]
 rw [parts_f (k := k + 9) hr.1 hr.2]
 simp only [Option.bind_some, decide_eq_true_eq]
 have hp1 : wrap64 ((p : Int) + 1) = ((p + 1 : Nat) : Int) := by rw [wrap64_id (by omega) (by omega)]; omega
 rw [hp1]
 clear e e1 hp1 hw hbr
 have hnum : (width (shp op) > 0 → Fits (numOf (shp op) (op :: (bytesOf s).drop (p + 1))) (width (shp op))) ∧ (width (shp op) = 0 → numOf (shp op) (op :: (bytesOf s).drop (p + 1)) = 0) ∧
  -9223372036854775808 ≤ numOf (shp op) (op :: (bytesOf s).drop (p + 1)) ∧ numOf (shp op) (op :: (bytesOf s).drop (p + 1)) < 9223372036854775808 := by
  unfold numOf
  by_cases hp : width (shp op) > 0
  ·rw [if_pos hp]
   have hb2 : Bs (op :: (bytesOf s).drop (p + 1)) := by
    rw [show op :: (bytesOf s).drop (p + 1) = (bytesOf s).drop p by rw [bt_drop s p hlt, hop]]
    exact (bytesOf_Bs s).drop p
   have hl2 : ((((op :: (bytesOf s).drop (p + 1)).drop (size (shp op) - width (shp op)).toNat).take (width (shp op)).toNat).length : Int) = width (shp op) := by
    rw [z9b, z9a]
    omega
   obtain ⟨g1, _, g3, g4⟩ := numV_fits ((hb2.drop (size (shp op) - width (shp op)).toNat).take (width (shp op)).toNat) hl2 (by omega)
   exact ⟨fun _ => g1, fun h => by omega, g3, g4⟩
  ·rw [if_neg hp]
   exact ⟨fun h => absurd h hp, fun _ => rfl, by omega, by omega⟩
 clear hlen
 -- the number, and the end, in one form
 have tail : ∀ a b : Int, 0 ≤ a → 0 ≤ b → (regs (shp op) < 2 → b = 0) → (regs (shp op) < 1 → a = 0) → cotterref03_Decode.j2 (k + 10) s p (size (shp op)) (width (shp op)) op a b 0 =
  some (if a < 8 ∧ b < 8 ∧ ¬ (shp op = 10 ∧ numOf (shp op) (op :: (bytesOf s).drop (p + 1)) < 0) then (op, a, b, numOf (shp op) (op :: (bytesOf s).drop (p + 1)), (p : Int) + size (shp op), 0) else (0, 0, 0, 0, 0, 9)) := by
  intro a b ha hb hB hA
  have hiff := enc_ok_iff (n := numOf (shp op) (op :: (bytesOf s).drop (p + 1))) hz ha hb hB hA hnum.2.1 hnum.1
  have hfin : ∀ (x : Int × Int × Int × Int × Int × Int), (if (encR op a b (numOf (shp op) (op :: (bytesOf s).drop (p + 1)))).2 = 0 then some x else some (0, 0, 0, 0, 0, 9)) =
   some (if a < 8 ∧ b < 8 ∧ ¬ (shp op = 10 ∧ numOf (shp op) (op :: (bytesOf s).drop (p + 1)) < 0) then x else (0, 0, 0, 0, 0, 9)) := by
   intro x
   by_cases hc : (encR op a b (numOf (shp op) (op :: (bytesOf s).drop (p + 1)))).2 = 0
   ·rw [if_pos hc, if_pos (hiff.1 hc)]
   ·rw [if_neg hc, if_neg (fun h => hc (hiff.2 h))]
  simp only [cotterref03_Decode.j2]
  rw [wrap64_id (n := (p : Int) + size (shp op)) (by omega) (by omega)]
  by_cases hp : width (shp op) > 0
  ·have hlo : wrap64 ((p : Int) + size (shp op) - width (shp op)) = ((p + (size (shp op) - width (shp op)).toNat : Nat) : Int) := lo_eq (by omega) (by omega) (by omega) (by omega)
   rw [if_pos hp, hlo, if_pos (by omega), if_pos (by omega), if_pos (by omega), Int.toNat_natCast]
   have hsx : (s.extract (p + (size (shp op) - width (shp op)).toNat) ((p : Int) + size (shp op)).toNat).size = (width (shp op)).toNat := by
    rw [ByteArray.size_extract]
    omega
   have hbx := bytesOf_extract s (p + (size (shp op) - width (shp op)).toNat) ((p : Int) + size (shp op)).toNat
   generalize s.extract (p + (size (shp op) - width (shp op)).toNat) ((p : Int) + size (shp op)).toNat = X at hsx hbx ⊢
   have hx1 : X.size ≤ 8 := by omega
   clear hsx
   have hnf : cotterref01_Number.f (k + 9) X = some (numR X) := rnumber_f X (Nat.le_trans hx1 (by decide)) (k + 9) (by omega)
   rw [hnf]
   simp only [Option.bind_some]
   have e3 : (numR X).1 = numOf (shp op) (op :: (bytesOf s).drop (p + 1)) := by
    rw [numR_V, hbx]
    unfold numOf
    rw [if_pos hp, show op :: (bytesOf s).drop (p + 1) = (bytesOf s).drop p by rw [bt_drop s p hlt, hop], List.drop_drop]
    congr 2
    omega
   rw [e3, renc_f (k + 9) (by omega) op a b _ hnum.2.2.1 hnum.2.2.2]
   simp only [Option.bind_some]
   exact hfin _
  ·have hn0 : numOf (shp op) (op :: (bytesOf s).drop (p + 1)) = 0 := hnum.2.1 (by omega)
   rw [if_neg hp]
   rw [hn0] at hfin hnum ⊢
   rw [renc_f (k + 9) (by omega) op a b 0 (by omega) (by omega)]
   simp only [Option.bind_some]
   exact hfin _
 have hn1 : regs (shp op) > 0 → p + 1 < s.size := by
  intro h
  have := hsz.2.2 h
  omega
 have fin : ∀ q : Int × Int, 0 ≤ q.1 → 0 ≤ q.2 → (regs (shp op) < 2 → q.2 = 0) → (regs (shp op) < 1 → q.1 = 0) → regsOf (shp op) (((bytesOf s).drop (p + 1)).getD 0 0) = q → cotterref03_Decode.j2 (k + 10) s p (size (shp op)) (width (shp op)) op q.1 q.2 0 =
  some (match (if (regsOf (shp op) (((bytesOf s).drop (p + 1)).getD 0 0)).1 < 8 ∧ (regsOf (shp op) (((bytesOf s).drop (p + 1)).getD 0 0)).2 < 8 ∧ ¬ (shp op = 10 ∧ numOf (shp op) (op :: (bytesOf s).drop (p + 1)) < 0) then
   some (op, (regsOf (shp op) (((bytesOf s).drop (p + 1)).getD 0 0)).1, (regsOf (shp op) (((bytesOf s).drop (p + 1)).getD 0 0)).2, numOf (shp op) (op :: (bytesOf s).drop (p + 1))) else none : Option (Int × Int × Int × Int)) with
   | none => (0, 0, 0, 0, 0, 9)
   | some (op, a, b, n) => (op, a, b, n, (p : Int) + size (shp op), 0)) := by
  intro q h1 h2 hB hA hq
  rw [hq, tail q.1 q.2 h1 h2 hB hA]
  split
  ·rfl
  ·rfl
 clear hnum tail
 by_cases hr2 : regs (shp op) = 2
 ·have hb2 := bt_range s (p + 1 : Nat)
  have hw2 : wrap64 (bt s (p + 1 : Nat)) = bt s (p + 1 : Nat) := wrap64_id (by omega) (by omega)
  have hm : Int.tmod (bt s (p + 1 : Nat)) 16 = bt s (p + 1 : Nat) % 16 := Int.tmod_eq_emod_of_nonneg (by omega)
  have hd : Int.tdiv (bt s (p + 1 : Nat)) 16 = bt s (p + 1 : Nat) / 16 := Int.tdiv_eq_ediv_of_nonneg (by omega)
  rw [if_pos hr2, if_pos (by omega), if_pos (by have := hn1 (by omega); omega), hw2, hm, hd, wrap64_id (n := bt s (p + 1 : Nat) / 16) (by omega) (by omega)]
  exact fin (bt s (p + 1 : Nat) / 16, bt s (p + 1 : Nat) % 16) (by simp only; omega) (by simp only; omega) (fun h => by omega) (fun h => by omega) (by unfold regsOf; rw [if_neg (by omega), if_pos hr2, getD_next s p (hn1 (by omega))])
 ·rw [if_neg hr2]
  by_cases hr1 : regs (shp op) > 0
  ·have hb2 := bt_range s (p + 1 : Nat)
   rw [if_pos hr1, if_pos (by omega), if_pos (by have := hn1 (by omega); omega), wrap64_id (n := bt s (p + 1 : Nat)) (by omega) (by omega)]
   exact fin (bt s (p + 1 : Nat), 0) (by simp only; omega) (by simp) (fun _ => rfl) (fun h => by omega) (by unfold regsOf; rw [if_pos (by omega), getD_next s p (hn1 (by omega))])
  ·rw [if_neg hr1]
   exact fin (0, 0) (by simp) (by simp) (fun _ => rfl) (fun _ => rfl) (by unfold regsOf; rw [if_neg (by omega), if_neg hr2])
/-- Either some instructions' forms stand from the place on, or none do, and All says so. -/
theorem rall_total (s : ByteArray) (hs : s.size ≤ 140737488351232) : ∀ (m k p : Nat) (acc : List S79), s.size - p ≤ m → p ≤ s.size → acc.length + m < 4398046511104 → m + 80 < k →
 (∃ is : List S79, (bytesOf s).drop p = formsS is ∧ (∀ i ∈ is, OkS i) ∧ is.length ≤ m ∧ cotterref03_All.l0 k s acc p = some (acc ++ is, 0)) ∨ (cotterref03_All.l0 k s acc p = some ([], 9) ∧ ¬ ∃ is : List S79, (bytesOf s).drop p = formsS is ∧ ∀ i ∈ is, OkS i) := by
 intro m
 induction m with
 | zero =>
  intro k p acc hm hp ha hk
  obtain ⟨k, rfl⟩ : ∃ m, k = m + 1 := ⟨k - 1, by omega⟩
  refine .inl ⟨[], ?_, by simp, by simp, ?_⟩
  ·rw [List.drop_eq_nil_of_le (by rw [bytesOf_length]; omega)]; rfl
  ·simp only [cotterref03_All.l0]
   rw [if_neg (by omega), List.append_nil]
 | succ m ih =>
  intro k p acc hm hp ha hk
  obtain ⟨k, rfl⟩ : ∃ m, k = m + 1 := ⟨k - 1, by omega⟩
  by_cases hlt : p < s.size
  ·simp only [cotterref03_All.l0]
   rw [if_pos (by omega), rdec_f s p hs k (by omega)]
   simp only [Option.bind_some]
   cases hd : decL ((bytesOf s).drop p) with
   | none =>
    have e : decR s p = (0, 0, 0, 0, 0, 9) := by
     unfold decR
     rw [if_neg (by omega), Int.toNat_natCast, hd]
    right
    rw [e, if_neg (by simp)]
    refine ⟨rfl, ?_⟩
    rintro ⟨is, h1, h2⟩
    cases is with
    | nil =>
     have h3 := congrArg List.length h1
     rw [z9a, bytesOf_length] at h3
     simp [formsS] at h3
     omega
    | cons i is =>
     rw [h1, formsS_cons] at hd
     have hi := h2 i (by simp)
     unfold formS at hd
     rw [decL_form _ hi.1 hi.2.1 hi.2.2.1 hi.2.2.2] at hd
     cases hd
   | some q =>
    obtain ⟨op, a, b, n⟩ := q
    obtain ⟨hM, hN, n0, n1, hl, hpos, htk⟩ := decL_some ((bytesOf_Bs s).drop p) hd
    have hI : OkS ⟨op, a, b, n⟩ := ⟨hM, hN, n0, n1⟩
    have hfl := formL_len op a b n hM.1
    have hsplit : (bytesOf s).drop p = formS ⟨op, a, b, n⟩ ++ (bytesOf s).drop (p + (formS ⟨op, a, b, n⟩).length) := by
     have e1 : (formS ⟨op, a, b, n⟩).length = (size (shp op)).toNat := by unfold formS; simp only; omega
     rw [e1, ← List.drop_drop]
     have e2 : formS ⟨op, a, b, n⟩ = ((bytesOf s).drop p).take (size (shp op)).toNat := htk.symm
     rw [e2, List.take_append_drop]
    have hlen : p + (formS ⟨op, a, b, n⟩).length ≤ s.size := by
     rw [z9a, bytesOf_length] at hl
     unfold formS
     simp only
     omega
    have hfp := formS_pos hI
    rw [dec_ok s p ⟨op, a, b, n⟩ _ hI hp hsplit]
    simp only [if_true]
    rw [if_pos (by omega)]
    rcases ih k (p + (formS ⟨op, a, b, n⟩).length) (acc ++ [⟨op, a, b, n⟩]) (by omega) hlen (by rw [List.length_append]; simp; omega) (by omega) with ⟨is, h1, h2, h3, h4⟩ | ⟨h1, h2⟩
    ·refine .inl ⟨⟨op, a, b, n⟩ :: is, ?_, ?_, by simp; omega, ?_⟩
     ·rw [hsplit, h1]; rfl
     ·intro i hi
      rcases List.mem_cons.1 hi with rfl | hi
      ·exact hI
      ·exact h2 i hi
     ·rw [h4]; simp
    ·refine .inr ⟨h1, ?_⟩
     rintro ⟨is, g1, g2⟩
     cases is with
     | nil =>
      have h3 := congrArg List.length g1
      rw [z9a, bytesOf_length] at h3
      simp [formsS] at h3
      omega
     | cons i is =>
      have hi := g2 i (by simp)
      have g3 := decL_form (formsS is) hi.1 hi.2.1 hi.2.2.1 hi.2.2.2
      rw [formsS_cons] at g1
      have e4 : formL i.f0 i.f1 i.f2 i.f3 ++ formsS is = (bytesOf s).drop p := g1.symm
      rw [e4, hd] at g3
      simp only [Option.some.injEq, Prod.mk.injEq] at g3
      obtain ⟨x1, x2, x3, x4⟩ := g3
      have e5 : formS ⟨op, a, b, n⟩ = formS i := by unfold formS; simp only [x1, x2, x3, x4]
      refine h2 ⟨is, ?_, fun j hj => g2 j (by simp [hj])⟩
      rw [e5, ← List.drop_drop, g1, List.drop_left]
  ·refine .inl ⟨[], ?_, by simp, by simp, ?_⟩
   ·rw [List.drop_eq_nil_of_le (by rw [bytesOf_length]; omega)]; rfl
   ·simp only [cotterref03_All.l0]
    rw [if_neg (by omega), List.append_nil]
theorem rall_same (s : ByteArray) (hs : s.size ≤ 1048576) (k : Nat) (hk : s.size + 100 < k) : ∃ is e, is.length ≤ s.size ∧ ins_All.f k s = some (is, e) ∧ cotterref03_All.f k s = some (is, e) := by
 unfold ins_All.f cotterref03_All.f
 rcases all_total s (by omega) s.size k 0 [] (by omega) (by omega) (by simp; omega) (by omega) with ⟨is, h1, h2, h3, h4⟩ | ⟨h1, h2⟩
 ·rcases rall_total s (by omega) s.size k 0 [] (by omega) (by omega) (by simp; omega) (by omega) with ⟨js, g1, g2, g3, g4⟩ | ⟨g1, g2⟩
  ·have e := forms_inj is js h2 g2 (h1.symm.trans g1)
   subst e
   exact ⟨is, 0, h3, by simpa using h4, by simpa using g4⟩
  ·exact absurd ⟨is, h1, h2⟩ g2
 ·rcases rall_total s (by omega) s.size k 0 [] (by omega) (by omega) (by simp; omega) (by omega) with ⟨js, g1, g2, g3, g4⟩ | ⟨g1, g2⟩
  ·exact absurd ⟨js, g1, g2⟩ h2
  ·exact ⟨[], 9, by simp, h1, g1⟩
end Go.Proofs.YtimhcpmfhebbhaaDoor.Ins
