/-
  Texts of the proofs of LinkLinks, cut to what the proofs reach and packed by a program of this session (wip/packs.py). Each part begins with what it says; conditions: those told there.
-/
import Derived.Test.YteaealmnmmcbpaaPJA8
-- Written by a program of this session (wip/ownprint.py) over the translation. Lean checks it.
namespace Go.Proofs.Yteaealmnmmcbpaa.M
open Go.RowKit Go.Proofs.YteaealmnmmcbpaaW.PrintWords Go.Proofs.YteaealmnmmcbpaaW.PrintLast
set_option linter.unusedVariables false
set_option linter.unusedSimpArgs false

/-! ### cotterref06_May: function 26 -/
mutual
def cotterref06_May.j0 : Nat → Bool → ByteArray → List Int → List (S36) → List (S45) → Option (Bool)
  | 0, _, _, _, _, _ => none
  | k + 1, x33, x112000, x112001, x112002, x112003 => if x33 = true then (some false) else (cotterref06_May.l0 k 0 0 x112000 x112001 x112002 x112003)
def cotterref06_May.l0 : Nat → Int → Int → ByteArray → List Int → List (S36) → List (S45) → Option (Bool)
  | 0, _, _, _, _, _, _ => none
  | k + 1, x3, x4, x112000, x112001, x112002, x112003 => if x4 < (x112003.length : Int) then (if 0 ≤ x4 then ((cotterref06_named.f ((rd_T45 x112003 x4).f2)).bind fun t115 => (if t115 = true then (if ((rd_T45 x112003 x4).f0) < x3 then (cotterref06_May.j2 k x4 true x112000 x112001 x112002 x112003 ((rd_T45 x112003 x4).f0) ((rd_T45 x112003 x4).f1) ((rd_T45 x112003 x4).f2) ((rd_T45 x112003 x4).f3)) else (cotterref06_May.j2 k x4 (decide (((rd_T45 x112003 x4).f0) > (wrap64 ((x112000.size : Int) - 4)))) x112000 x112001 x112002 x112003 ((rd_T45 x112003 x4).f0) ((rd_T45 x112003 x4).f1) ((rd_T45 x112003 x4).f2) ((rd_T45 x112003 x4).f3))) else (cotterref06_May.j2 k x4 true x112000 x112001 x112002 x112003 ((rd_T45 x112003 x4).f0) ((rd_T45 x112003 x4).f1) ((rd_T45 x112003 x4).f2) ((rd_T45 x112003 x4).f3)))) else (none)) else (some true)
def cotterref06_May.j2 : Nat → Int → Bool → ByteArray → List Int → List (S36) → List (S45) → Int → Int → ByteArray → Int → Option (Bool)
  | 0, _, _, _, _, _, _, _, _, _, _ => none
  | k + 1, x4, x64, x112000, x112001, x112002, x112003, x115000, x115001, x115002, x115003 => if x64 = true then (some false) else (if x115001 = 1 then (if x115003 = 0 then (cotterref06_May.l0 k (wrap64 (x115000 + 4)) (wrap64 (x4 + 1)) x112000 x112001 x112002 x112003) else (if x115001 = 2 then (if x115003 ≥ (-2147483648) then (if x115003 ≤ 2147483647 then (cotterref06_May.l0 k (wrap64 (x115000 + 4)) (wrap64 (x4 + 1)) x112000 x112001 x112002 x112003) else (some false)) else (some false)) else (some false))) else (if x115001 = 2 then (if x115003 ≥ (-2147483648) then (if x115003 ≤ 2147483647 then (cotterref06_May.l0 k (wrap64 (x115000 + 4)) (wrap64 (x4 + 1)) x112000 x112001 x112002 x112003) else (some false)) else (some false)) else (some false)))
end
def cotterref06_May.f (k : Nat) (a0_0 : ByteArray) (l0_1 : List Int) (l0_2 : List (S36)) (l0_3 : List (S45)) : Option (Bool) := if (a0_0.size : Int) > 65536 then (cotterref06_May.j0 k true a0_0 l0_1 l0_2 l0_3) else (if (l0_1.length : Int) > 4096 then (cotterref06_May.j0 k true a0_0 l0_1 l0_2 l0_3) else ((cotterref06_Syms.f k l0_2 (a0_0.size : Int) (l0_1.length : Int)).bind fun t112 => (if t112 = true then (cotterref06_May.j0 k (decide ((l0_3.length : Int) > 8000)) a0_0 l0_1 l0_2 l0_3) else (cotterref06_May.j0 k true a0_0 l0_1 l0_2 l0_3))))
set_option maxHeartbeats 8000000 in
set_option maxRecDepth 100000 in
theorem cotterref06_May.calls (k : Nat) (a0_0 : ByteArray) (A0_1 : Option Addr) (c0_1 : Nat) (l0_1 : List Int) (A0_2 : Option Addr) (c0_2 : Nat) (l0_2 : List (S36)) (A0_3 : Option Addr) (c0_3 : Nat) (l0_3 : List (S45)) (r : Bool) (w : World) (hr0_1 : Kd.C (Kd.int .i64) w A0_1 l0_1.length l0_1) (hc0_1 : l0_1.length ≤ c0_1) (hr0_2 : Kd.C k36 w A0_2 l0_2.length l0_2) (hc0_2 : l0_2.length ≤ c0_2) (hr0_3 : Kd.C k45 w A0_3 l0_3.length l0_3) (hc0_3 : l0_3.length ≤ c0_3) (h : cotterref06_May.f k a0_0 l0_1 l0_2 l0_3 = some r) :
    Calls Try.prog 26 #[.agg #[.string a0_0, .slice A0_1 l0_1.length c0_1, .slice A0_2 l0_2.length c0_2, .slice A0_3 l0_3.length c0_3]] w fun e w' => e = .returned (.bool r) ∧ Below w.heap.size w w' := by
  have hu40 := Try.underlying40
  have hu45 := Try.underlying45
  have HR0_1 := Aside0.mk hr0_1
  have HC0_1 := Aside0.mk hc0_1
  clear hr0_1 hc0_1
  have HR0_2 := Aside0.mk hr0_2
  have HC0_2 := Aside0.mk hc0_2
  clear hr0_2 hc0_2
  have HR0_3 := Aside0.mk hr0_3
  have HC0_3 := Aside0.mk hc0_3
  clear hr0_3 hc0_3
  have HB := Aside0.mk (Below.refl w.heap.size w)
  have H : (if (a0_0.size : Int) > 65536 then (cotterref06_May.j0 k true a0_0 l0_1 l0_2 l0_3) else (if (l0_1.length : Int) > 4096 then (cotterref06_May.j0 k true a0_0 l0_1 l0_2 l0_3) else ((cotterref06_Syms.f k l0_2 (a0_0.size : Int) (l0_1.length : Int)).bind fun t112 => (if t112 = true then (cotterref06_May.j0 k (decide ((l0_3.length : Int) > 8000)) a0_0 l0_1 l0_2 l0_3) else (cotterref06_May.j0 k true a0_0 l0_1 l0_2 l0_3))))) = some r := h
  clear h
  have HC2 := Aside0.mk H
  clear H
  go_enter Try.func26, Try.ntmps26
  go_upto_region 1 with (first | ((with_reducible refine gate_dst (N := 1) rfl ?_); (try (refine gate_guard (by rfl) ?_; dsimp only)); refine box_event ?hg (N := 1) ?hd (cs := #[.string a0_0, .slice A0_1 l0_1.length c0_1, .slice A0_2 l0_2.length c0_2, .slice A0_3 l0_3.length c0_3]) (t := 40) ?hr ?_; (case hd => rfl); (case hg => rfl); (case hr => first | (go_simp; done) | (go_simp; rfl)); intro gb111 hg w3 hbox hb; have n0_ := Aside0.mk (below_step (by repeat (first | (with_reducible first | exact HB.out | apply below_alloc | apply pw_below_drewN | apply below_drew1) | exact HB.out)) hb); have n1_ := Aside0.mk (hbox); have n2_ := Aside0.mk ((by rw [hg]; exact (below_size (by repeat (first | (with_reducible first | exact HB.out | apply below_alloc | apply pw_below_drewN | apply below_drew1) | exact HB.out))) : w.heap.size ≤ gb111)); have n3_ := Aside0.mk ((by rw [hg]; exact (below_size (by repeat (first | (with_reducible first | exact HB.out | apply below_alloc | apply pw_below_drewN | apply below_drew1) | exact HB.out))) : w.heap.size ≤ gb111)); clear HB; have HB := n0_; have BK111 := n1_; have GW111 := n2_; have GE111 := n3_; clear n0_ n1_ n2_ n3_; clear hb hbox hg))
  (try simp only [Act.put, List.setIfInBounds_toArray, List.set_cons_zero, List.set_cons_succ])
  go_cut [33] (fun v33 wc => ∃ (kq : Nat) (x33_1 : Bool), v33 = .bool x33_1 ∧ Aside0 (cotterref06_May.j0 kq x33_1 a0_0 l0_1 l0_2 l0_3 = some r) ∧ Aside0 (kq ≤ k) ∧ Aside0 (wc.heap[gb111]? = some (.cells #[.string a0_0, (.slice A0_1 l0_1.length c0_1), (.slice A0_2 l0_2.length c0_2), (.slice A0_3 l0_3.length c0_3)] 40 (0, 0))) ∧ Aside0 (Below w.heap.size w wc))
  case first =>
    have H := HC2.out
    clear HC2
    by_cases c4 : (a0_0.size : Int) > 65536
    · rw [if_pos c4] at H
      have c4b0 : decide (65536 < (a0_0.size : Int)) = true := decide_eq_true c4
      have c4b1 : decide (65536 < a0_0.size) = true := decide_eq_true (by omega)
      clear c4
      (first | rw [c4b0] | (simp only [i64_w, i32_w]; rw [c4b0]) | skip)
      have H' := Aside0.mk H
      clear H
      have hcz5_0 : w3.cell? ⟨gb111, 0, none⟩ = some (.string a0_0) := (blk_cell BK111.out 0).trans rfl
      have hcz5_1 : w3.cell? ⟨gb111, 1, none⟩ = some (.slice A0_1 l0_1.length c0_1) := (blk_cell BK111.out 1).trans rfl
      have hcz5_2 : w3.cell? ⟨gb111, 2, none⟩ = some (.slice A0_2 l0_2.length c0_2) := (blk_cell BK111.out 2).trans rfl
      have hcz5_3 : w3.cell? ⟨gb111, 3, none⟩ = some (.slice A0_3 l0_3.length c0_3) := (blk_cell BK111.out 3).trans rfl
      have hfz5_0 := blk_frozen BK111.out 0
      have hfz5_1 := blk_frozen BK111.out 1
      have hfz5_2 := blk_frozen BK111.out 2
      have hfz5_3 := blk_frozen BK111.out 3
      go_wp2
      go_meet
      case rel => exact ⟨_, (true), (by first | rfl | (simp; done) | (simp [*]; done)), H', ⟨by first | omega | exact Nat.le_refl _⟩, ⟨by (with_reducible repeat (first | refine blk_drewN ?_ _ | refine blk_drew ?_ | refine blk_alloc ?_ _)); exact BK111.out⟩, ⟨by repeat (first | (with_reducible first | exact HB.out | apply below_alloc | apply pw_below_drewN | apply below_drew1 | refine below_set ?_ GE111.out) | exact HB.out)⟩⟩
    · rw [if_neg c4] at H
      have c4b0 : decide (65536 < (a0_0.size : Int)) = false := decide_eq_false c4
      have c4b1 : decide (65536 < a0_0.size) = false := decide_eq_false (by omega)
      clear c4
      (first | rw [c4b0] | (simp only [i64_w, i32_w]; rw [c4b0]) | skip)
      by_cases c6 : (l0_1.length : Int) > 4096
      · rw [if_pos c6] at H
        have c6b0 : decide (4096 < (l0_1.length : Int)) = true := decide_eq_true c6
        have c6b1 : decide (4096 < l0_1.length) = true := decide_eq_true (by omega)
        clear c6
        have H' := Aside0.mk H
        clear H
        have hcz7_0 : w3.cell? ⟨gb111, 0, none⟩ = some (.string a0_0) := (blk_cell BK111.out 0).trans rfl
        have hcz7_1 : w3.cell? ⟨gb111, 1, none⟩ = some (.slice A0_1 l0_1.length c0_1) := (blk_cell BK111.out 1).trans rfl
        have hcz7_2 : w3.cell? ⟨gb111, 2, none⟩ = some (.slice A0_2 l0_2.length c0_2) := (blk_cell BK111.out 2).trans rfl
        have hcz7_3 : w3.cell? ⟨gb111, 3, none⟩ = some (.slice A0_3 l0_3.length c0_3) := (blk_cell BK111.out 3).trans rfl
        have hfz7_0 := blk_frozen BK111.out 0
        have hfz7_1 := blk_frozen BK111.out 1
        have hfz7_2 := blk_frozen BK111.out 2
        have hfz7_3 := blk_frozen BK111.out 3
        go_wp2
        go_meet
        case rel => exact ⟨_, (true), (by first | rfl | (simp; done) | (simp [*]; done)), H', ⟨by first | omega | exact Nat.le_refl _⟩, ⟨by (with_reducible repeat (first | refine blk_drewN ?_ _ | refine blk_drew ?_ | refine blk_alloc ?_ _)); exact BK111.out⟩, ⟨by repeat (first | (with_reducible first | exact HB.out | apply below_alloc | apply pw_below_drewN | apply below_drew1 | refine below_set ?_ GE111.out) | exact HB.out)⟩⟩
      · rw [if_neg c6] at H
        have c6b0 : decide (4096 < (l0_1.length : Int)) = false := decide_eq_false c6
        have c6b1 : decide (4096 < l0_1.length) = false := decide_eq_false (by omega)
        clear c6
        replace H := Option.bind_eq_some_iff.mp H
        obtain ⟨t112, A80, H⟩ := H
        replace H : (if t112 = true then (cotterref06_May.j0 k (decide ((l0_3.length : Int) > 8000)) a0_0 l0_1 l0_2 l0_3) else (cotterref06_May.j0 k true a0_0 l0_1 l0_2 l0_3)) = some r := H
        have A8 := Aside0.mk A80
        clear A80
        by_cases c9 : t112 = true
        · subst c9
          have H1 : (cotterref06_May.j0 k (decide ((l0_3.length : Int) > 8000)) a0_0 l0_1 l0_2 l0_3) = some r := by rw [if_pos rfl] at H; exact H
          clear H
          have H := H1
          clear H1
          have H' := Aside0.mk H
          clear H
          have hcz10_0 : w3.cell? ⟨gb111, 0, none⟩ = some (.string a0_0) := (blk_cell BK111.out 0).trans rfl
          have hcz10_1 : w3.cell? ⟨gb111, 1, none⟩ = some (.slice A0_1 l0_1.length c0_1) := (blk_cell BK111.out 1).trans rfl
          have hcz10_2 : w3.cell? ⟨gb111, 2, none⟩ = some (.slice A0_2 l0_2.length c0_2) := (blk_cell BK111.out 2).trans rfl
          have hcz10_3 : w3.cell? ⟨gb111, 3, none⟩ = some (.slice A0_3 l0_3.length c0_3) := (blk_cell BK111.out 3).trans rfl
          have hfz10_0 := blk_frozen BK111.out 0
          have hfz10_1 := blk_frozen BK111.out 1
          have hfz10_2 := blk_frozen BK111.out 2
          have hfz10_3 := blk_frozen BK111.out 3
          go_wp2_with (first | (go_at_call 36; (with_reducible refine (cotterref06_Syms.calls k _ _ l0_2 (a0_0.size : Int) (l0_1.length : Int) true _ ?side1 ?side2 A8.out).mono ?_); (case side1 => repeat (first | exact (Kd.C_below HR0_2.out HB.out) | (with_reducible refine Kd.C_alloc ?_ _) | (with_reducible refine Kd.C_drewN ?_ _) | (with_reducible refine Kd.C_drew ?_))); (case side2 => exact HC0_2.out); rintro e w11 ⟨rfl, hb⟩; have n0_ := Aside0.mk (blk_below (g := gb111) (o := .cells #[.string a0_0, .slice A0_1 l0_1.length c0_1, .slice A0_2 l0_2.length c0_2, .slice A0_3 l0_3.length c0_3] 40 (0, 0)) (by (with_reducible repeat (first | refine blk_drewN ?_ _ | refine blk_drew ?_ | refine blk_alloc ?_ _)); exact BK111.out) hb); have n1_ := Aside0.mk (below_step (by repeat (first | (with_reducible first | exact HB.out | apply below_alloc | apply pw_below_drewN | apply below_drew1 | refine below_set ?_ GE111.out) | exact HB.out)) hb); clear BK111; clear HB; have BK111 := n0_; have HB := n1_; clear n0_ n1_; (try clear hb); (try clear hb2); (try clear hk); (try clear hi); have hcz12_0 : w11.cell? ⟨gb111, 0, none⟩ = some (.string a0_0) := (blk_cell BK111.out 0).trans rfl; have hcz12_1 : w11.cell? ⟨gb111, 1, none⟩ = some (.slice A0_1 l0_1.length c0_1) := (blk_cell BK111.out 1).trans rfl; have hcz12_2 : w11.cell? ⟨gb111, 2, none⟩ = some (.slice A0_2 l0_2.length c0_2) := (blk_cell BK111.out 2).trans rfl; have hcz12_3 : w11.cell? ⟨gb111, 3, none⟩ = some (.slice A0_3 l0_3.length c0_3) := (blk_cell BK111.out 3).trans rfl; have hfz12_0 := blk_frozen BK111.out 0; have hfz12_1 := blk_frozen BK111.out 1; have hfz12_2 := blk_frozen BK111.out 2; have hfz12_3 := blk_frozen BK111.out 3))
          go_meet
          case rel => exact ⟨_, (decide ((l0_3.length : Int) > 8000)), (by first | rfl | (simp; done) | (simp [*]; done)), H', ⟨by first | omega | exact Nat.le_refl _⟩, ⟨by (with_reducible repeat (first | refine blk_drewN ?_ _ | refine blk_drew ?_ | refine blk_alloc ?_ _)); exact BK111.out⟩, ⟨by repeat (first | (with_reducible first | exact HB.out | apply below_alloc | apply pw_below_drewN | apply below_drew1 | refine below_set ?_ GE111.out) | exact HB.out)⟩⟩
        · replace c9 := Bool.eq_false_iff.mpr c9
          subst c9
          have H1 : (cotterref06_May.j0 k true a0_0 l0_1 l0_2 l0_3) = some r := by rw [if_neg (show ¬ (false = true) by decide)] at H; exact H
          clear H
          have H := H1
          clear H1
          have H' := Aside0.mk H
          clear H
          have hcz13_0 : w3.cell? ⟨gb111, 0, none⟩ = some (.string a0_0) := (blk_cell BK111.out 0).trans rfl
          have hcz13_1 : w3.cell? ⟨gb111, 1, none⟩ = some (.slice A0_1 l0_1.length c0_1) := (blk_cell BK111.out 1).trans rfl
          have hcz13_2 : w3.cell? ⟨gb111, 2, none⟩ = some (.slice A0_2 l0_2.length c0_2) := (blk_cell BK111.out 2).trans rfl
          have hcz13_3 : w3.cell? ⟨gb111, 3, none⟩ = some (.slice A0_3 l0_3.length c0_3) := (blk_cell BK111.out 3).trans rfl
          have hfz13_0 := blk_frozen BK111.out 0
          have hfz13_1 := blk_frozen BK111.out 1
          have hfz13_2 := blk_frozen BK111.out 2
          have hfz13_3 := blk_frozen BK111.out 3
          go_wp2_with (first | (go_at_call 36; (with_reducible refine (cotterref06_Syms.calls k _ _ l0_2 (a0_0.size : Int) (l0_1.length : Int) false _ ?side1 ?side2 A8.out).mono ?_); (case side1 => repeat (first | exact (Kd.C_below HR0_2.out HB.out) | (with_reducible refine Kd.C_alloc ?_ _) | (with_reducible refine Kd.C_drewN ?_ _) | (with_reducible refine Kd.C_drew ?_))); (case side2 => exact HC0_2.out); rintro e w14 ⟨rfl, hb⟩; have n0_ := Aside0.mk (blk_below (g := gb111) (o := .cells #[.string a0_0, .slice A0_1 l0_1.length c0_1, .slice A0_2 l0_2.length c0_2, .slice A0_3 l0_3.length c0_3] 40 (0, 0)) (by (with_reducible repeat (first | refine blk_drewN ?_ _ | refine blk_drew ?_ | refine blk_alloc ?_ _)); exact BK111.out) hb); have n1_ := Aside0.mk (below_step (by repeat (first | (with_reducible first | exact HB.out | apply below_alloc | apply pw_below_drewN | apply below_drew1 | refine below_set ?_ GE111.out) | exact HB.out)) hb); clear BK111; clear HB; have BK111 := n0_; have HB := n1_; clear n0_ n1_; (try clear hb); (try clear hb2); (try clear hk); (try clear hi)))
          go_meet
          case rel => exact ⟨_, (true), (by first | rfl | (simp; done) | (simp [*]; done)), H', ⟨by first | omega | exact Nat.le_refl _⟩, ⟨by (with_reducible repeat (first | refine blk_drewN ?_ _ | refine blk_drew ?_ | refine blk_alloc ?_ _)); exact BK111.out⟩, ⟨by repeat (first | (with_reducible first | exact HB.out | apply below_alloc | apply pw_below_drewN | apply below_drew1 | refine below_set ?_ GE111.out) | exact HB.out)⟩⟩
  case rest =>
    clear HC2
    try clear c2
    try clear p2
    try clear c4
    try clear c4b0
    try clear c4b1
    try clear c6
    try clear c6b0
    try clear c6b1
    try clear c9
    try clear hcz10_0
    try clear hcz10_1
    try clear hcz10_2
    try clear hcz10_3
    try clear hcz12_0
    try clear hcz12_1
    try clear hcz12_2
    try clear hcz12_3
    try clear hcz13_0
    try clear hcz13_1
    try clear hcz13_2
    try clear hcz13_3
    try clear hcz5_0
    try clear hcz5_1
    try clear hcz5_2
    try clear hcz5_3
    try clear hcz7_0
    try clear hcz7_1
    try clear hcz7_2
    try clear hcz7_3
    try clear hfz10_0
    try clear hfz10_1
    try clear hfz10_2
    try clear hfz10_3
    try clear hfz12_0
    try clear hfz12_1
    try clear hfz12_2
    try clear hfz12_3
    try clear hfz13_0
    try clear hfz13_1
    try clear hfz13_2
    try clear hfz13_3
    try clear hfz5_0
    try clear hfz5_1
    try clear hfz5_2
    try clear hfz5_3
    try clear hfz7_0
    try clear hfz7_1
    try clear hfz7_2
    try clear hfz7_3
    obtain ⟨kq, x33_1, rfl, HA, HJ1, BK111, HB⟩ := hcut
    cases kq with
    | zero => exact absurd HA.out (by simp [cotterref06_May.j0])
    | succ kj1 =>
      have H := HA.out
      clear HA
      simp only [cotterref06_May.j0] at H
      by_cases c15 : x33_1 = true
      · subst c15
        have H1 : (some false) = some r := by rw [if_pos rfl] at H; exact H
        clear H
        have H := H1
        clear H1
        obtain rfl := Option.some.inj H
        go_wp2
        go_ret
        exact ⟨by first | rfl | (simp [errW_none, errW_some] <;> rfl) | (simp [*, errW_none, errW_some] <;> rfl), by repeat (first | (with_reducible first | exact HB.out | apply below_alloc | apply pw_below_drewN | apply below_drew1 | refine below_set ?_ GE111.out) | exact HB.out)⟩
      · replace c15 := Bool.eq_false_iff.mpr c15
        subst c15
        have H1 : (cotterref06_May.l0 kj1 0 0 a0_0 l0_1 l0_2 l0_3) = some r := by rw [if_neg (show ¬ (false = true) by decide)] at H; exact H
        clear H
        have H := H1
        clear H1
        have H' := Aside0.mk H
        clear H
        go_wp2
        go_loopg [3, 4] kj1 (fun kq v3 v4 w' => ∃ (x3_2 : Int) (x4_2 : Int), v3 = .int .i64 x3_2 ∧ v4 = .int .i64 x4_2 ∧ Aside0 (cotterref06_May.l0 kq x3_2 x4_2 a0_0 l0_1 l0_2 l0_3 = some r) ∧ Aside0 (kq ≤ kj1) ∧ Aside0 (w'.heap[gb111]? = some (.cells #[.string a0_0, (.slice A0_1 l0_1.length c0_1), (.slice A0_2 l0_2.length c0_2), (.slice A0_3 l0_3.length c0_3)] 40 (0, 0))) ∧ Aside0 (Below w.heap.size w w'))
        case atStart => exact ⟨(0), (0), (by first | rfl | (simp; done) | (simp [*]; done)), (by first | rfl | (simp; done) | (simp [*]; done)), H', ⟨Nat.le_refl _⟩, ⟨by (with_reducible repeat (first | refine blk_drewN ?_ _ | refine blk_drew ?_ | refine blk_alloc ?_ _)); exact BK111.out⟩, ⟨by repeat (first | (with_reducible first | exact HB.out | apply below_alloc | apply pw_below_drewN | apply below_drew1 | refine below_set ?_ GE111.out) | exact HB.out)⟩⟩
        case round =>
          clear H'
          try clear c1
          try clear c2
          try clear p2
          try clear c4
          try clear c4b0
          try clear c4b1
          try clear c6
          try clear c6b0
          try clear c6b1
          try clear c9
          try clear c15
          try clear hcz10_0
          try clear hcz10_1
          try clear hcz10_2
          try clear hcz10_3
          try clear hcz12_0
          try clear hcz12_1
          try clear hcz12_2
          try clear hcz12_3
          try clear hcz13_0
          try clear hcz13_1
          try clear hcz13_2
          try clear hcz13_3
          try clear hcz5_0
          try clear hcz5_1
          try clear hcz5_2
          try clear hcz5_3
          try clear hcz7_0
          try clear hcz7_1
          try clear hcz7_2
          try clear hcz7_3
          try clear hfz10_0
          try clear hfz10_1
          try clear hfz10_2
          try clear hfz10_3
          try clear hfz12_0
          try clear hfz12_1
          try clear hfz12_2
          try clear hfz12_3
          try clear hfz13_0
          try clear hfz13_1
          try clear hfz13_2
          try clear hfz13_3
          try clear hfz5_0
          try clear hfz5_1
          try clear hfz5_2
          try clear hfz5_3
          try clear hfz7_0
          try clear hfz7_1
          try clear hfz7_2
          try clear hfz7_3
          try clear p2
          obtain ⟨x3_2, x4_2, rfl, rfl, HA, HK2, BK111, HB⟩ := hrel
          cases gk with
          | zero => exact absurd HA.out (by simp [cotterref06_May.l0])
          | succ k2 =>
            have H := HA.out
            clear HA
            simp only [cotterref06_May.l0] at H
            by_cases c16 : x4_2 < (l0_3.length : Int)
            · rw [if_pos c16] at H
              have c16b0 : decide (x4_2 < (l0_3.length : Int)) = true := decide_eq_true c16
              clear c16
              by_cases c17 : 0 ≤ x4_2
              · rw [if_pos c17] at H
                have c17b0 : decide (0 ≤ x4_2) = true := decide_eq_true c17
                clear c17
                have HC18 := Aside0.mk H
                clear H
                have hcz19_0 : wr.cell? ⟨gb111, 0, none⟩ = some (.string a0_0) := (blk_cell BK111.out 0).trans rfl
                have hcz19_1 : wr.cell? ⟨gb111, 1, none⟩ = some (.slice A0_1 l0_1.length c0_1) := (blk_cell BK111.out 1).trans rfl
                have hcz19_2 : wr.cell? ⟨gb111, 2, none⟩ = some (.slice A0_2 l0_2.length c0_2) := (blk_cell BK111.out 2).trans rfl
                have hcz19_3 : wr.cell? ⟨gb111, 3, none⟩ = some (.slice A0_3 l0_3.length c0_3) := (blk_cell BK111.out 3).trans rfl
                have hfz19_0 := blk_frozen BK111.out 0
                have hfz19_1 := blk_frozen BK111.out 1
                have hfz19_2 := blk_frozen BK111.out 2
                have hfz19_3 := blk_frozen BK111.out 3
                have p113 : 0 ≤ (x4_2 : Int) := of_decide_eq_true (by first | (with_reducible assumption) | assumption)
                have q113 : x4_2 < (l0_3.length : Int) := of_decide_eq_true (by first | (with_reducible assumption) | assumption)
                obtain ⟨ad113, e113, hx113_0, hx113_1, hx113_2, hx113_3⟩ := at_T45 HR0_3.out x4_2 p113 q113
                cases e113
                replace hx113_0 := (HB.out.cell (World.block_lt_of_cell? w _ hx113_0)).trans hx113_0
                replace hx113_1 := (HB.out.cell (World.block_lt_of_cell? w _ hx113_1)).trans hx113_1
                replace hx113_2 := (HB.out.cell (World.block_lt_of_cell? w _ hx113_2)).trans hx113_2
                replace hx113_3 := (HB.out.cell (World.block_lt_of_cell? w _ hx113_3)).trans hx113_3
                replace p113 := eq_true p113
                replace q113 := eq_true q113
                go_upto_region 8 with (first | ((with_reducible refine gate_dst (N := 5) rfl ?_); (try (refine gate_guard (by rfl) ?_; dsimp only)); refine box_event ?hg (N := 5) ?hd (cs := #[.int .i64 0, .int .i64 0, .string (⟨#[]⟩ : ByteArray), .int .i64 0]) (t := 45) ?hr ?_; (case hd => rfl); (case hg => rfl); (case hr => first | (go_simp; done) | (go_simp; rfl)); intro gb114 hg w20 hbox hb; have n0_ := Aside0.mk (blk_below (g := gb111) (o := .cells #[.string a0_0, .slice A0_1 l0_1.length c0_1, .slice A0_2 l0_2.length c0_2, .slice (some ad113) l0_3.length c0_3] 40 (0, 0)) (by (with_reducible repeat (first | refine blk_drewN ?_ _ | refine blk_drew ?_ | refine blk_alloc ?_ _)); exact BK111.out) hb); have n1_ := Aside0.mk (below_step (by repeat (first | (with_reducible first | exact HB.out | apply below_alloc | apply pw_below_drewN | apply below_drew1 | refine below_set ?_ GE111.out) | exact HB.out)) hb); have n2_ := Aside0.mk (hbox); have n3_ := Aside0.mk ((by rw [hg]; exact (below_size (by repeat (first | (with_reducible first | exact HB.out | apply below_alloc | apply pw_below_drewN | apply below_drew1 | refine below_set ?_ GE111.out) | exact HB.out))) : w.heap.size ≤ gb114)); have n4_ := Aside0.mk ((by rw [hg]; exact (below_size (by repeat (first | (with_reducible first | exact HB.out | apply below_alloc | apply pw_below_drewN | apply below_drew1 | refine below_set ?_ GE111.out) | exact HB.out))) : w.heap.size ≤ gb114)); have n5_ := Aside0.mk ((by rw [hg]; exact Nat.ne_of_lt (blk_lt (g := gb111) (o := .cells #[.string a0_0, .slice A0_1 l0_1.length c0_1, .slice A0_2 l0_2.length c0_2, .slice (some ad113) l0_3.length c0_3] 40 (0, 0)) (by (with_reducible repeat (first | refine blk_drewN ?_ _ | refine blk_drew ?_ | refine blk_alloc ?_ _)); exact BK111.out)) : gb111 ≠ gb114)); have n6_ := Aside0.mk ((by rw [hg]; exact Nat.ne_of_gt (blk_lt (g := gb111) (o := .cells #[.string a0_0, .slice A0_1 l0_1.length c0_1, .slice A0_2 l0_2.length c0_2, .slice (some ad113) l0_3.length c0_3] 40 (0, 0)) (by (with_reducible repeat (first | refine blk_drewN ?_ _ | refine blk_drew ?_ | refine blk_alloc ?_ _)); exact BK111.out)) : gb114 ≠ gb111)); clear BK111; clear HB; have BK111 := n0_; have HB := n1_; have BK114 := n2_; have GW114 := n3_; have GE114 := n4_; have NB111_114 := n5_; have NB114_111 := n6_; clear n0_ n1_ n2_ n3_ n4_ n5_ n6_; clear hb hbox hg; have hnb21 := NB114_111.out; have hnc21 := NB111_114.out; have hcz22_0 : w20.cell? ⟨gb114, 0, none⟩ = some (.int .i64 0) := (blk_cell BK114.out 0).trans rfl; have hcz22_1 : w20.cell? ⟨gb114, 1, none⟩ = some (.int .i64 0) := (blk_cell BK114.out 1).trans rfl; have hcz22_2 : w20.cell? ⟨gb114, 2, none⟩ = some (.string (⟨#[]⟩ : ByteArray)) := (blk_cell BK114.out 2).trans rfl; have hcz22_3 : w20.cell? ⟨gb114, 3, none⟩ = some (.int .i64 0) := (blk_cell BK114.out 3).trans rfl; have hfz22_0 := blk_frozen BK114.out 0; have hfz22_1 := blk_frozen BK114.out 1; have hfz22_2 := blk_frozen BK114.out 2; have hfz22_3 := blk_frozen BK114.out 3))
                (try simp only [Act.put, List.setIfInBounds_toArray, List.set_cons_zero, List.set_cons_succ])
                go_cut [64] (fun v64 wc => ∃ (kq : Nat) (x64_17 : Bool), v64 = .bool x64_17 ∧ Aside0 (cotterref06_May.j2 kq x4_2 x64_17 a0_0 l0_1 l0_2 l0_3 ((rd_T45 l0_3 x4_2).f0) ((rd_T45 l0_3 x4_2).f1) ((rd_T45 l0_3 x4_2).f2) ((rd_T45 l0_3 x4_2).f3) = some r) ∧ Aside0 (kq ≤ k2) ∧ Aside0 (wc.heap[gb111]? = some (.cells #[.string a0_0, (.slice A0_1 l0_1.length c0_1), (.slice A0_2 l0_2.length c0_2), (.slice (some ad113) l0_3.length c0_3)] 40 (0, 0))) ∧ Aside0 (wc.heap[gb114]? = some (.cells #[.int .i64 ((rd_T45 l0_3 x4_2).f0), .int .i64 ((rd_T45 l0_3 x4_2).f1), .string ((rd_T45 l0_3 x4_2).f2), .int .i64 ((rd_T45 l0_3 x4_2).f3)] 45 (0, 0))) ∧ Aside0 (Below w.heap.size w wc))
                case first =>
                  have H := HC18.out
                  clear HC18
                  replace H := Option.bind_eq_some_iff.mp H
                  obtain ⟨t115, A230, H⟩ := H
                  replace H : (if t115 = true then (if ((rd_T45 l0_3 x4_2).f0) < x3_2 then (cotterref06_May.j2 k2 x4_2 true a0_0 l0_1 l0_2 l0_3 ((rd_T45 l0_3 x4_2).f0) ((rd_T45 l0_3 x4_2).f1) ((rd_T45 l0_3 x4_2).f2) ((rd_T45 l0_3 x4_2).f3)) else (cotterref06_May.j2 k2 x4_2 (decide (((rd_T45 l0_3 x4_2).f0) > (wrap64 ((a0_0.size : Int) - 4)))) a0_0 l0_1 l0_2 l0_3 ((rd_T45 l0_3 x4_2).f0) ((rd_T45 l0_3 x4_2).f1) ((rd_T45 l0_3 x4_2).f2) ((rd_T45 l0_3 x4_2).f3))) else (cotterref06_May.j2 k2 x4_2 true a0_0 l0_1 l0_2 l0_3 ((rd_T45 l0_3 x4_2).f0) ((rd_T45 l0_3 x4_2).f1) ((rd_T45 l0_3 x4_2).f2) ((rd_T45 l0_3 x4_2).f3))) = some r := H
                  have A23 := Aside0.mk A230
                  clear A230
                  by_cases c24 : t115 = true
                  · subst c24
                    have H1 : (if ((rd_T45 l0_3 x4_2).f0) < x3_2 then (cotterref06_May.j2 k2 x4_2 true a0_0 l0_1 l0_2 l0_3 ((rd_T45 l0_3 x4_2).f0) ((rd_T45 l0_3 x4_2).f1) ((rd_T45 l0_3 x4_2).f2) ((rd_T45 l0_3 x4_2).f3)) else (cotterref06_May.j2 k2 x4_2 (decide (((rd_T45 l0_3 x4_2).f0) > (wrap64 ((a0_0.size : Int) - 4)))) a0_0 l0_1 l0_2 l0_3 ((rd_T45 l0_3 x4_2).f0) ((rd_T45 l0_3 x4_2).f1) ((rd_T45 l0_3 x4_2).f2) ((rd_T45 l0_3 x4_2).f3))) = some r := by rw [if_pos rfl] at H; exact H
                    clear H
                    have H := H1
                    clear H1
                    by_cases c25 : ((rd_T45 l0_3 x4_2).f0) < x3_2
                    · rw [if_pos c25] at H
                      have c25b0 : decide (((rd_T45 l0_3 x4_2).f0) < x3_2) = true := decide_eq_true c25
                      clear c25
                      (first | rw [c25b0] | (simp only [i64_w, i32_w]; rw [c25b0]) | skip)
                      have H' := Aside0.mk H
                      clear H
                      have hnb26 := NB114_111.out
                      have hnc26 := NB111_114.out
                      have hcz27_0 : w20.cell? ⟨gb114, 0, none⟩ = some (.int .i64 0) := (blk_cell BK114.out 0).trans rfl
                      have hcz27_1 : w20.cell? ⟨gb114, 1, none⟩ = some (.int .i64 0) := (blk_cell BK114.out 1).trans rfl
                      have hcz27_2 : w20.cell? ⟨gb114, 2, none⟩ = some (.string (⟨#[]⟩ : ByteArray)) := (blk_cell BK114.out 2).trans rfl
                      have hcz27_3 : w20.cell? ⟨gb114, 3, none⟩ = some (.int .i64 0) := (blk_cell BK114.out 3).trans rfl
                      have hfz27_0 := blk_frozen BK114.out 0
                      have hfz27_1 := blk_frozen BK114.out 1
                      have hfz27_2 := blk_frozen BK114.out 2
                      have hfz27_3 := blk_frozen BK114.out 3
                      go_wp2_with (first | ((with_reducible refine gate_callee (f := 37) rfl ?_); refine goesL_ (some 48) rfl rfl Try.func37 (by kernel_rfl) rfl #[.string ((rd_T45 l0_3 x4_2).f2)] rfl (by (try simp only [List.map_toArray, List.map_cons, List.map_nil]); first | done | rfl | (simp only [List.length_drop, List.length_take]; rfl)) ?_; (with_reducible refine (cotterref06_named.calls ((rd_T45 l0_3 x4_2).f2) true _ A23.out).mono ?_); rintro e w' ⟨rfl, ⟨nd, rfl⟩⟩; refine ⟨_, rfl, ?_⟩))
                      go_meet
                      case rel => exact ⟨_, (true), (by first | rfl | (simp; done) | (simp [*]; done)), H', ⟨by have := HJ1.out; have := HK2.out; first | omega | exact Nat.le_refl _⟩, ⟨by (with_reducible repeat (first | refine blk_drewN ?_ _ | refine blk_drew ?_ | refine blk_alloc ?_ _)); refine blk_far ?_ NB111_114.out _; (with_reducible repeat (first | refine blk_drewN ?_ _ | refine blk_drew ?_ | refine blk_alloc ?_ _)); refine blk_far ?_ NB111_114.out _; (with_reducible repeat (first | refine blk_drewN ?_ _ | refine blk_drew ?_ | refine blk_alloc ?_ _)); refine blk_far ?_ NB111_114.out _; (with_reducible repeat (first | refine blk_drewN ?_ _ | refine blk_drew ?_ | refine blk_alloc ?_ _)); refine blk_far ?_ NB111_114.out _; (with_reducible repeat (first | refine blk_drewN ?_ _ | refine blk_drew ?_ | refine blk_alloc ?_ _)); exact BK111.out⟩, ⟨by (with_reducible repeat (first | refine blk_drewN ?_ _ | refine blk_drew ?_ | refine blk_alloc ?_ _)); refine blk_put (cs := #[.int .i64 ((rd_T45 l0_3 x4_2).f0), .int .i64 ((rd_T45 l0_3 x4_2).f1), .string ((rd_T45 l0_3 x4_2).f2), .int .i64 0]) ?_ 3 _ rfl; (with_reducible repeat (first | refine blk_drewN ?_ _ | refine blk_drew ?_ | refine blk_alloc ?_ _)); refine blk_put (cs := #[.int .i64 ((rd_T45 l0_3 x4_2).f0), .int .i64 ((rd_T45 l0_3 x4_2).f1), .string (⟨#[]⟩ : ByteArray), .int .i64 0]) ?_ 2 _ rfl; (with_reducible repeat (first | refine blk_drewN ?_ _ | refine blk_drew ?_ | refine blk_alloc ?_ _)); refine blk_put (cs := #[.int .i64 ((rd_T45 l0_3 x4_2).f0), .int .i64 0, .string (⟨#[]⟩ : ByteArray), .int .i64 0]) ?_ 1 _ rfl; (with_reducible repeat (first | refine blk_drewN ?_ _ | refine blk_drew ?_ | refine blk_alloc ?_ _)); refine blk_put (cs := #[.int .i64 0, .int .i64 0, .string (⟨#[]⟩ : ByteArray), .int .i64 0]) ?_ 0 _ rfl; (with_reducible repeat (first | refine blk_drewN ?_ _ | refine blk_drew ?_ | refine blk_alloc ?_ _)); exact BK114.out⟩, ⟨by repeat (first | (with_reducible first | exact HB.out | apply below_alloc | apply pw_below_drewN | apply below_drew1 | refine below_set ?_ GE111.out | refine below_set ?_ GE114.out) | exact HB.out)⟩⟩
                    · rw [if_neg c25] at H
                      have c25b0 : decide (((rd_T45 l0_3 x4_2).f0) < x3_2) = false := decide_eq_false c25
                      clear c25
                      (first | rw [c25b0] | (simp only [i64_w, i32_w]; rw [c25b0]) | skip)
                      have H' := Aside0.mk H
                      clear H
                      have hnb28 := NB114_111.out
                      have hnc28 := NB111_114.out
                      have hcz29_0 : w20.cell? ⟨gb114, 0, none⟩ = some (.int .i64 0) := (blk_cell BK114.out 0).trans rfl
                      have hcz29_1 : w20.cell? ⟨gb114, 1, none⟩ = some (.int .i64 0) := (blk_cell BK114.out 1).trans rfl
                      have hcz29_2 : w20.cell? ⟨gb114, 2, none⟩ = some (.string (⟨#[]⟩ : ByteArray)) := (blk_cell BK114.out 2).trans rfl
                      have hcz29_3 : w20.cell? ⟨gb114, 3, none⟩ = some (.int .i64 0) := (blk_cell BK114.out 3).trans rfl
                      have hfz29_0 := blk_frozen BK114.out 0
                      have hfz29_1 := blk_frozen BK114.out 1
                      have hfz29_2 := blk_frozen BK114.out 2
                      have hfz29_3 := blk_frozen BK114.out 3
                      go_wp2_with (first | ((with_reducible refine gate_callee (f := 37) rfl ?_); refine goesL_ (some 48) rfl rfl Try.func37 (by kernel_rfl) rfl #[.string ((rd_T45 l0_3 x4_2).f2)] rfl (by (try simp only [List.map_toArray, List.map_cons, List.map_nil]); first | done | rfl | (simp only [List.length_drop, List.length_take]; rfl)) ?_; (with_reducible refine (cotterref06_named.calls ((rd_T45 l0_3 x4_2).f2) true _ A23.out).mono ?_); rintro e w' ⟨rfl, ⟨nd, rfl⟩⟩; refine ⟨_, rfl, ?_⟩; have hcz30_0 : w20.cell? ⟨gb111, 0, none⟩ = some (.string a0_0) := (blk_cell BK111.out 0).trans rfl; have hcz30_1 : w20.cell? ⟨gb111, 1, none⟩ = some (.slice A0_1 l0_1.length c0_1) := (blk_cell BK111.out 1).trans rfl; have hcz30_2 : w20.cell? ⟨gb111, 2, none⟩ = some (.slice A0_2 l0_2.length c0_2) := (blk_cell BK111.out 2).trans rfl; have hcz30_3 : w20.cell? ⟨gb111, 3, none⟩ = some (.slice (some ad113) l0_3.length c0_3) := (blk_cell BK111.out 3).trans rfl; have hfz30_0 := blk_frozen BK111.out 0; have hfz30_1 := blk_frozen BK111.out 1; have hfz30_2 := blk_frozen BK111.out 2; have hfz30_3 := blk_frozen BK111.out 3))
                      go_meet
                      case rel => exact ⟨_, (decide (((rd_T45 l0_3 x4_2).f0) > (wrap64 ((a0_0.size : Int) - 4)))), (by first | rfl | (simp; done) | (simp [*]; done)), H', ⟨by have := HJ1.out; have := HK2.out; first | omega | exact Nat.le_refl _⟩, ⟨by (with_reducible repeat (first | refine blk_drewN ?_ _ | refine blk_drew ?_ | refine blk_alloc ?_ _)); refine blk_far ?_ NB111_114.out _; (with_reducible repeat (first | refine blk_drewN ?_ _ | refine blk_drew ?_ | refine blk_alloc ?_ _)); refine blk_far ?_ NB111_114.out _; (with_reducible repeat (first | refine blk_drewN ?_ _ | refine blk_drew ?_ | refine blk_alloc ?_ _)); refine blk_far ?_ NB111_114.out _; (with_reducible repeat (first | refine blk_drewN ?_ _ | refine blk_drew ?_ | refine blk_alloc ?_ _)); refine blk_far ?_ NB111_114.out _; (with_reducible repeat (first | refine blk_drewN ?_ _ | refine blk_drew ?_ | refine blk_alloc ?_ _)); exact BK111.out⟩, ⟨by (with_reducible repeat (first | refine blk_drewN ?_ _ | refine blk_drew ?_ | refine blk_alloc ?_ _)); refine blk_put (cs := #[.int .i64 ((rd_T45 l0_3 x4_2).f0), .int .i64 ((rd_T45 l0_3 x4_2).f1), .string ((rd_T45 l0_3 x4_2).f2), .int .i64 0]) ?_ 3 _ rfl; (with_reducible repeat (first | refine blk_drewN ?_ _ | refine blk_drew ?_ | refine blk_alloc ?_ _)); refine blk_put (cs := #[.int .i64 ((rd_T45 l0_3 x4_2).f0), .int .i64 ((rd_T45 l0_3 x4_2).f1), .string (⟨#[]⟩ : ByteArray), .int .i64 0]) ?_ 2 _ rfl; (with_reducible repeat (first | refine blk_drewN ?_ _ | refine blk_drew ?_ | refine blk_alloc ?_ _)); refine blk_put (cs := #[.int .i64 ((rd_T45 l0_3 x4_2).f0), .int .i64 0, .string (⟨#[]⟩ : ByteArray), .int .i64 0]) ?_ 1 _ rfl; (with_reducible repeat (first | refine blk_drewN ?_ _ | refine blk_drew ?_ | refine blk_alloc ?_ _)); refine blk_put (cs := #[.int .i64 0, .int .i64 0, .string (⟨#[]⟩ : ByteArray), .int .i64 0]) ?_ 0 _ rfl; (with_reducible repeat (first | refine blk_drewN ?_ _ | refine blk_drew ?_ | refine blk_alloc ?_ _)); exact BK114.out⟩, ⟨by repeat (first | (with_reducible first | exact HB.out | apply below_alloc | apply pw_below_drewN | apply below_drew1 | refine below_set ?_ GE111.out | refine below_set ?_ GE114.out) | exact HB.out)⟩⟩
                  · replace c24 := Bool.eq_false_iff.mpr c24
                    subst c24
                    have H1 : (cotterref06_May.j2 k2 x4_2 true a0_0 l0_1 l0_2 l0_3 ((rd_T45 l0_3 x4_2).f0) ((rd_T45 l0_3 x4_2).f1) ((rd_T45 l0_3 x4_2).f2) ((rd_T45 l0_3 x4_2).f3)) = some r := by rw [if_neg (show ¬ (false = true) by decide)] at H; exact H
                    clear H
                    have H := H1
                    clear H1
                    have H' := Aside0.mk H
                    clear H
                    have hnb31 := NB114_111.out
                    have hnc31 := NB111_114.out
                    have hcz32_0 : w20.cell? ⟨gb114, 0, none⟩ = some (.int .i64 0) := (blk_cell BK114.out 0).trans rfl
                    have hcz32_1 : w20.cell? ⟨gb114, 1, none⟩ = some (.int .i64 0) := (blk_cell BK114.out 1).trans rfl
                    have hcz32_2 : w20.cell? ⟨gb114, 2, none⟩ = some (.string (⟨#[]⟩ : ByteArray)) := (blk_cell BK114.out 2).trans rfl
                    have hcz32_3 : w20.cell? ⟨gb114, 3, none⟩ = some (.int .i64 0) := (blk_cell BK114.out 3).trans rfl
                    have hfz32_0 := blk_frozen BK114.out 0
                    have hfz32_1 := blk_frozen BK114.out 1
                    have hfz32_2 := blk_frozen BK114.out 2
                    have hfz32_3 := blk_frozen BK114.out 3
                    go_wp2_with (first | ((with_reducible refine gate_callee (f := 37) rfl ?_); refine goesL_ (some 48) rfl rfl Try.func37 (by kernel_rfl) rfl #[.string ((rd_T45 l0_3 x4_2).f2)] rfl (by (try simp only [List.map_toArray, List.map_cons, List.map_nil]); first | done | rfl | (simp only [List.length_drop, List.length_take]; rfl)) ?_; (with_reducible refine (cotterref06_named.calls ((rd_T45 l0_3 x4_2).f2) false _ A23.out).mono ?_); rintro e w' ⟨rfl, ⟨nd, rfl⟩⟩; refine ⟨_, rfl, ?_⟩))
                    go_meet
                    case rel => exact ⟨_, (true), (by first | rfl | (simp; done) | (simp [*]; done)), H', ⟨by have := HJ1.out; have := HK2.out; first | omega | exact Nat.le_refl _⟩, ⟨by (with_reducible repeat (first | refine blk_drewN ?_ _ | refine blk_drew ?_ | refine blk_alloc ?_ _)); refine blk_far ?_ NB111_114.out _; (with_reducible repeat (first | refine blk_drewN ?_ _ | refine blk_drew ?_ | refine blk_alloc ?_ _)); refine blk_far ?_ NB111_114.out _; (with_reducible repeat (first | refine blk_drewN ?_ _ | refine blk_drew ?_ | refine blk_alloc ?_ _)); refine blk_far ?_ NB111_114.out _; (with_reducible repeat (first | refine blk_drewN ?_ _ | refine blk_drew ?_ | refine blk_alloc ?_ _)); refine blk_far ?_ NB111_114.out _; (with_reducible repeat (first | refine blk_drewN ?_ _ | refine blk_drew ?_ | refine blk_alloc ?_ _)); exact BK111.out⟩, ⟨by (with_reducible repeat (first | refine blk_drewN ?_ _ | refine blk_drew ?_ | refine blk_alloc ?_ _)); refine blk_put (cs := #[.int .i64 ((rd_T45 l0_3 x4_2).f0), .int .i64 ((rd_T45 l0_3 x4_2).f1), .string ((rd_T45 l0_3 x4_2).f2), .int .i64 0]) ?_ 3 _ rfl; (with_reducible repeat (first | refine blk_drewN ?_ _ | refine blk_drew ?_ | refine blk_alloc ?_ _)); refine blk_put (cs := #[.int .i64 ((rd_T45 l0_3 x4_2).f0), .int .i64 ((rd_T45 l0_3 x4_2).f1), .string (⟨#[]⟩ : ByteArray), .int .i64 0]) ?_ 2 _ rfl; (with_reducible repeat (first | refine blk_drewN ?_ _ | refine blk_drew ?_ | refine blk_alloc ?_ _)); refine blk_put (cs := #[.int .i64 ((rd_T45 l0_3 x4_2).f0), .int .i64 0, .string (⟨#[]⟩ : ByteArray), .int .i64 0]) ?_ 1 _ rfl; (with_reducible repeat (first | refine blk_drewN ?_ _ | refine blk_drew ?_ | refine blk_alloc ?_ _)); refine blk_put (cs := #[.int .i64 0, .int .i64 0, .string (⟨#[]⟩ : ByteArray), .int .i64 0]) ?_ 0 _ rfl; (with_reducible repeat (first | refine blk_drewN ?_ _ | refine blk_drew ?_ | refine blk_alloc ?_ _)); exact BK114.out⟩, ⟨by repeat (first | (with_reducible first | exact HB.out | apply below_alloc | apply pw_below_drewN | apply below_drew1 | refine below_set ?_ GE111.out | refine below_set ?_ GE114.out) | exact HB.out)⟩⟩
                case rest =>
                  clear HC18
                  try clear c1
                  try clear p1
                  try clear q1
                  try clear hx1
                  try clear c2
                  try clear p2
                  try clear c3
                  try clear c4
                  try clear c4b0
                  try clear c4b1
                  try clear c6
                  try clear c6b0
                  try clear c6b1
                  try clear p6
                  try clear c9
                  try clear p11
                  try clear q11
                  try clear hx11
                  try clear c15
                  try clear c16
                  try clear c16b0
                  try clear c17
                  try clear c17b0
                  try clear c21
                  try clear c24
                  try clear c25
                  try clear c25b0
                  try clear c26
                  try clear c28
                  try clear c31
                  try clear hcz10_0
                  try clear hcz10_1
                  try clear hcz10_2
                  try clear hcz10_3
                  try clear hcz12_0
                  try clear hcz12_1
                  try clear hcz12_2
                  try clear hcz12_3
                  try clear hcz13_0
                  try clear hcz13_1
                  try clear hcz13_2
                  try clear hcz13_3
                  try clear hcz19_0
                  try clear hcz19_1
                  try clear hcz19_2
                  try clear hcz19_3
                  try clear hcz22_0
                  try clear hcz22_1
                  try clear hcz22_2
                  try clear hcz22_3
                  try clear hcz27_0
                  try clear hcz27_1
                  try clear hcz27_2
                  try clear hcz27_3
                  try clear hcz29_0
                  try clear hcz29_1
                  try clear hcz29_2
                  try clear hcz29_3
                  try clear hcz30_0
                  try clear hcz30_1
                  try clear hcz30_2
                  try clear hcz30_3
                  try clear hcz32_0
                  try clear hcz32_1
                  try clear hcz32_2
                  try clear hcz32_3
                  try clear hcz5_0
                  try clear hcz5_1
                  try clear hcz5_2
                  try clear hcz5_3
                  try clear hcz7_0
                  try clear hcz7_1
                  try clear hcz7_2
                  try clear hcz7_3
                  try clear hfz10_0
                  try clear hfz10_1
                  try clear hfz10_2
                  try clear hfz10_3
                  try clear hfz12_0
                  try clear hfz12_1
                  try clear hfz12_2
                  try clear hfz12_3
                  try clear hfz13_0
                  try clear hfz13_1
                  try clear hfz13_2
                  try clear hfz13_3
                  try clear hfz19_0
                  try clear hfz19_1
                  try clear hfz19_2
                  try clear hfz19_3
                  try clear hfz22_0
                  try clear hfz22_1
                  try clear hfz22_2
                  try clear hfz22_3
                  try clear hfz27_0
                  try clear hfz27_1
                  try clear hfz27_2
                  try clear hfz27_3
                  try clear hfz29_0
                  try clear hfz29_1
                  try clear hfz29_2
                  try clear hfz29_3
                  try clear hfz30_0
                  try clear hfz30_1
                  try clear hfz30_2
                  try clear hfz30_3
                  try clear hfz32_0
                  try clear hfz32_1
                  try clear hfz32_2
                  try clear hfz32_3
                  try clear hfz5_0
                  try clear hfz5_1
                  try clear hfz5_2
                  try clear hfz5_3
                  try clear hfz7_0
                  try clear hfz7_1
                  try clear hfz7_2
                  try clear hfz7_3
                  try clear hx113_0
                  try clear hx113_1
                  try clear hx113_2
                  try clear hx113_3
                  try clear p113
                  try clear p2
                  try clear q113
                  obtain ⟨kq, x64_17, rfl, HA, HJ17, BK111, BK114, HB⟩ := hcut
                  cases kq with
                  | zero => exact absurd HA.out (by simp [cotterref06_May.j2])
                  | succ kj17 =>
                    have H := HA.out
                    clear HA
                    simp only [cotterref06_May.j2] at H
                    by_cases c33 : x64_17 = true
                    · subst c33
                      have H1 : (some false) = some r := by rw [if_pos rfl] at H; exact H
                      clear H
                      have H := H1
                      clear H1
                      obtain rfl := Option.some.inj H
                      go_wp2
                      go_ret
                      exact ⟨by first | rfl | (simp [errW_none, errW_some] <;> rfl) | (simp [*, errW_none, errW_some] <;> rfl), by repeat (first | (with_reducible first | exact HB.out | apply below_alloc | apply pw_below_drewN | apply below_drew1 | refine below_set ?_ GE111.out | refine below_set ?_ GE114.out) | exact HB.out)⟩
                    · replace c33 := Bool.eq_false_iff.mpr c33
                      subst c33
                      have H1 : (if ((rd_T45 l0_3 x4_2).f1) = 1 then (if ((rd_T45 l0_3 x4_2).f3) = 0 then (cotterref06_May.l0 kj17 (wrap64 (((rd_T45 l0_3 x4_2).f0) + 4)) (wrap64 (x4_2 + 1)) a0_0 l0_1 l0_2 l0_3) else (if ((rd_T45 l0_3 x4_2).f1) = 2 then (if ((rd_T45 l0_3 x4_2).f3) ≥ (-2147483648) then (if ((rd_T45 l0_3 x4_2).f3) ≤ 2147483647 then (cotterref06_May.l0 kj17 (wrap64 (((rd_T45 l0_3 x4_2).f0) + 4)) (wrap64 (x4_2 + 1)) a0_0 l0_1 l0_2 l0_3) else (some false)) else (some false)) else (some false))) else (if ((rd_T45 l0_3 x4_2).f1) = 2 then (if ((rd_T45 l0_3 x4_2).f3) ≥ (-2147483648) then (if ((rd_T45 l0_3 x4_2).f3) ≤ 2147483647 then (cotterref06_May.l0 kj17 (wrap64 (((rd_T45 l0_3 x4_2).f0) + 4)) (wrap64 (x4_2 + 1)) a0_0 l0_1 l0_2 l0_3) else (some false)) else (some false)) else (some false))) = some r := by rw [if_neg (show ¬ (false = true) by decide)] at H; exact H
                      clear H
                      have H := H1
                      clear H1
                      by_cases c34 : ((rd_T45 l0_3 x4_2).f1) = 1
                      · rw [if_pos c34] at H
                        have c34b0 : (((rd_T45 l0_3 x4_2).f1) == 1) = true := beq_iff_eq.mpr c34
                        have c34b1 : (((rd_T45 l0_3 x4_2).f1) != 1) = false := bne_eq_false_iff_eq.mpr c34
                        clear c34
                        by_cases c35 : ((rd_T45 l0_3 x4_2).f3) = 0
                        · rw [if_pos c35] at H
                          have c35b0 : (((rd_T45 l0_3 x4_2).f3) == 0) = true := beq_iff_eq.mpr c35
                          have c35b1 : (((rd_T45 l0_3 x4_2).f3) != 0) = false := bne_eq_false_iff_eq.mpr c35
                          clear c35
                          have H' := Aside0.mk H
                          clear H
                          have hnb36 := NB114_111.out
                          have hnc36 := NB111_114.out
                          have hcz37_0 : wc.cell? ⟨gb114, 0, none⟩ = some (.int .i64 ((rd_T45 l0_3 x4_2).f0)) := (blk_cell BK114.out 0).trans rfl
                          have hcz37_1 : wc.cell? ⟨gb114, 1, none⟩ = some (.int .i64 ((rd_T45 l0_3 x4_2).f1)) := (blk_cell BK114.out 1).trans rfl
                          have hcz37_2 : wc.cell? ⟨gb114, 2, none⟩ = some (.string ((rd_T45 l0_3 x4_2).f2)) := (blk_cell BK114.out 2).trans rfl
                          have hcz37_3 : wc.cell? ⟨gb114, 3, none⟩ = some (.int .i64 ((rd_T45 l0_3 x4_2).f3)) := (blk_cell BK114.out 3).trans rfl
                          have hfz37_0 := blk_frozen BK114.out 0
                          have hfz37_1 := blk_frozen BK114.out 1
                          have hfz37_2 := blk_frozen BK114.out 2
                          have hfz37_3 := blk_frozen BK114.out 3
                          go_wp2
                          go_roundg kj17
                          case measure => have := HJ1.out; have := HK2.out; have := HJ17.out; omega
                          case rel => exact ⟨(wrap64 (((rd_T45 l0_3 x4_2).f0) + 4)), (wrap64 (x4_2 + 1)), (by first | rfl | (simp; done) | (simp [*]; done)), (by first | rfl | (simp; done) | (simp [*]; done)), H', ⟨by have := HJ1.out; have := HK2.out; have := HJ17.out; omega⟩, ⟨by (with_reducible repeat (first | refine blk_drewN ?_ _ | refine blk_drew ?_ | refine blk_alloc ?_ _)); exact BK111.out⟩, ⟨by repeat (first | (with_reducible first | exact HB.out | apply below_alloc | apply pw_below_drewN | apply below_drew1 | refine below_set ?_ GE111.out | refine below_set ?_ GE114.out) | exact HB.out)⟩⟩
                        · rw [if_neg c35] at H
                          have c35b0 : (((rd_T45 l0_3 x4_2).f3) == 0) = false := beq_eq_false_iff_ne.mpr c35
                          have c35b1 : (((rd_T45 l0_3 x4_2).f3) != 0) = true := bne_iff_ne.mpr c35
                          by_cases c38 : ((rd_T45 l0_3 x4_2).f1) = 2
                          · rw [if_pos c38] at H
                            have c38b0 : (((rd_T45 l0_3 x4_2).f1) == 2) = true := beq_iff_eq.mpr c38
                            have c38b1 : (((rd_T45 l0_3 x4_2).f1) != 2) = false := bne_eq_false_iff_eq.mpr c38
                            clear c38
                            by_cases c39 : ((rd_T45 l0_3 x4_2).f3) ≥ (-2147483648)
                            · rw [if_pos c39] at H
                              have c39b0 : decide ((-2147483648) ≤ ((rd_T45 l0_3 x4_2).f3)) = true := decide_eq_true c39
                              clear c39
                              by_cases c40 : ((rd_T45 l0_3 x4_2).f3) ≤ 2147483647
                              · rw [if_pos c40] at H
                                have c40b0 : decide (((rd_T45 l0_3 x4_2).f3) ≤ 2147483647) = true := decide_eq_true c40
                                clear c40
                                have H' := Aside0.mk H
                                clear H
                                have hnb41 := NB114_111.out
                                have hnc41 := NB111_114.out
                                have hcz42_0 : wc.cell? ⟨gb114, 0, none⟩ = some (.int .i64 ((rd_T45 l0_3 x4_2).f0)) := (blk_cell BK114.out 0).trans rfl
                                have hcz42_1 : wc.cell? ⟨gb114, 1, none⟩ = some (.int .i64 ((rd_T45 l0_3 x4_2).f1)) := (blk_cell BK114.out 1).trans rfl
                                have hcz42_2 : wc.cell? ⟨gb114, 2, none⟩ = some (.string ((rd_T45 l0_3 x4_2).f2)) := (blk_cell BK114.out 2).trans rfl
                                have hcz42_3 : wc.cell? ⟨gb114, 3, none⟩ = some (.int .i64 ((rd_T45 l0_3 x4_2).f3)) := (blk_cell BK114.out 3).trans rfl
                                have hfz42_0 := blk_frozen BK114.out 0
                                have hfz42_1 := blk_frozen BK114.out 1
                                have hfz42_2 := blk_frozen BK114.out 2
                                have hfz42_3 := blk_frozen BK114.out 3
                                go_wp2
                                go_roundg kj17
                                case measure => have := HJ1.out; have := HK2.out; have := HJ17.out; omega
                                case rel => exact ⟨(wrap64 (((rd_T45 l0_3 x4_2).f0) + 4)), (wrap64 (x4_2 + 1)), (by first | rfl | (simp; done) | (simp [*]; done)), (by first | rfl | (simp; done) | (simp [*]; done)), H', ⟨by have := HJ1.out; have := HK2.out; have := HJ17.out; omega⟩, ⟨by (with_reducible repeat (first | refine blk_drewN ?_ _ | refine blk_drew ?_ | refine blk_alloc ?_ _)); exact BK111.out⟩, ⟨by repeat (first | (with_reducible first | exact HB.out | apply below_alloc | apply pw_below_drewN | apply below_drew1 | refine below_set ?_ GE111.out | refine below_set ?_ GE114.out) | exact HB.out)⟩⟩
                              · rw [if_neg c40] at H
                                have c40b0 : decide (((rd_T45 l0_3 x4_2).f3) ≤ 2147483647) = false := decide_eq_false c40
                                clear c40
                                obtain rfl := Option.some.inj H
                                have hnb43 := NB114_111.out
                                have hnc43 := NB111_114.out
                                have hcz44_0 : wc.cell? ⟨gb114, 0, none⟩ = some (.int .i64 ((rd_T45 l0_3 x4_2).f0)) := (blk_cell BK114.out 0).trans rfl
                                have hcz44_1 : wc.cell? ⟨gb114, 1, none⟩ = some (.int .i64 ((rd_T45 l0_3 x4_2).f1)) := (blk_cell BK114.out 1).trans rfl
                                have hcz44_2 : wc.cell? ⟨gb114, 2, none⟩ = some (.string ((rd_T45 l0_3 x4_2).f2)) := (blk_cell BK114.out 2).trans rfl
                                have hcz44_3 : wc.cell? ⟨gb114, 3, none⟩ = some (.int .i64 ((rd_T45 l0_3 x4_2).f3)) := (blk_cell BK114.out 3).trans rfl
                                have hfz44_0 := blk_frozen BK114.out 0
                                have hfz44_1 := blk_frozen BK114.out 1
                                have hfz44_2 := blk_frozen BK114.out 2
                                have hfz44_3 := blk_frozen BK114.out 3
                                go_wp2
                                go_ret
                                exact ⟨by first | rfl | (simp [errW_none, errW_some] <;> rfl) | (simp [*, errW_none, errW_some] <;> rfl), by repeat (first | (with_reducible first | exact HB.out | apply below_alloc | apply pw_below_drewN | apply below_drew1 | refine below_set ?_ GE111.out | refine below_set ?_ GE114.out) | exact HB.out)⟩
                            · rw [if_neg c39] at H
                              have c39b0 : decide ((-2147483648) ≤ ((rd_T45 l0_3 x4_2).f3)) = false := decide_eq_false c39
                              clear c39
                              obtain rfl := Option.some.inj H
                              have hnb45 := NB114_111.out
                              have hnc45 := NB111_114.out
                              have hcz46_0 : wc.cell? ⟨gb114, 0, none⟩ = some (.int .i64 ((rd_T45 l0_3 x4_2).f0)) := (blk_cell BK114.out 0).trans rfl
                              have hcz46_1 : wc.cell? ⟨gb114, 1, none⟩ = some (.int .i64 ((rd_T45 l0_3 x4_2).f1)) := (blk_cell BK114.out 1).trans rfl
                              have hcz46_2 : wc.cell? ⟨gb114, 2, none⟩ = some (.string ((rd_T45 l0_3 x4_2).f2)) := (blk_cell BK114.out 2).trans rfl
                              have hcz46_3 : wc.cell? ⟨gb114, 3, none⟩ = some (.int .i64 ((rd_T45 l0_3 x4_2).f3)) := (blk_cell BK114.out 3).trans rfl
                              have hfz46_0 := blk_frozen BK114.out 0
                              have hfz46_1 := blk_frozen BK114.out 1
                              have hfz46_2 := blk_frozen BK114.out 2
                              have hfz46_3 := blk_frozen BK114.out 3
                              go_wp2
                              go_ret
                              exact ⟨by first | rfl | (simp [errW_none, errW_some] <;> rfl) | (simp [*, errW_none, errW_some] <;> rfl), by repeat (first | (with_reducible first | exact HB.out | apply below_alloc | apply pw_below_drewN | apply below_drew1 | refine below_set ?_ GE111.out | refine below_set ?_ GE114.out) | exact HB.out)⟩
                          · rw [if_neg c38] at H
                            have c38b0 : (((rd_T45 l0_3 x4_2).f1) == 2) = false := beq_eq_false_iff_ne.mpr c38
                            have c38b1 : (((rd_T45 l0_3 x4_2).f1) != 2) = true := bne_iff_ne.mpr c38
                            obtain rfl := Option.some.inj H
                            have hnb47 := NB114_111.out
                            have hnc47 := NB111_114.out
                            have hcz48_0 : wc.cell? ⟨gb114, 0, none⟩ = some (.int .i64 ((rd_T45 l0_3 x4_2).f0)) := (blk_cell BK114.out 0).trans rfl
                            have hcz48_1 : wc.cell? ⟨gb114, 1, none⟩ = some (.int .i64 ((rd_T45 l0_3 x4_2).f1)) := (blk_cell BK114.out 1).trans rfl
                            have hcz48_2 : wc.cell? ⟨gb114, 2, none⟩ = some (.string ((rd_T45 l0_3 x4_2).f2)) := (blk_cell BK114.out 2).trans rfl
                            have hcz48_3 : wc.cell? ⟨gb114, 3, none⟩ = some (.int .i64 ((rd_T45 l0_3 x4_2).f3)) := (blk_cell BK114.out 3).trans rfl
                            have hfz48_0 := blk_frozen BK114.out 0
                            have hfz48_1 := blk_frozen BK114.out 1
                            have hfz48_2 := blk_frozen BK114.out 2
                            have hfz48_3 := blk_frozen BK114.out 3
                            go_wp2
                            go_ret
                            exact ⟨by first | rfl | (simp [errW_none, errW_some] <;> rfl) | (simp [*, errW_none, errW_some] <;> rfl), by repeat (first | (with_reducible first | exact HB.out | apply below_alloc | apply pw_below_drewN | apply below_drew1 | refine below_set ?_ GE111.out | refine below_set ?_ GE114.out) | exact HB.out)⟩
                      · rw [if_neg c34] at H
                        have c34b0 : (((rd_T45 l0_3 x4_2).f1) == 1) = false := beq_eq_false_iff_ne.mpr c34
                        have c34b1 : (((rd_T45 l0_3 x4_2).f1) != 1) = true := bne_iff_ne.mpr c34
                        by_cases c49 : ((rd_T45 l0_3 x4_2).f1) = 2
                        · rw [if_pos c49] at H
                          have c49b0 : (((rd_T45 l0_3 x4_2).f1) == 2) = true := beq_iff_eq.mpr c49
                          have c49b1 : (((rd_T45 l0_3 x4_2).f1) != 2) = false := bne_eq_false_iff_eq.mpr c49
                          clear c49
                          by_cases c50 : ((rd_T45 l0_3 x4_2).f3) ≥ (-2147483648)
                          · rw [if_pos c50] at H
                            have c50b0 : decide ((-2147483648) ≤ ((rd_T45 l0_3 x4_2).f3)) = true := decide_eq_true c50
                            clear c50
                            by_cases c51 : ((rd_T45 l0_3 x4_2).f3) ≤ 2147483647
                            · rw [if_pos c51] at H
                              have c51b0 : decide (((rd_T45 l0_3 x4_2).f3) ≤ 2147483647) = true := decide_eq_true c51
                              clear c51
                              have H' := Aside0.mk H
                              clear H
                              have hnb52 := NB114_111.out
                              have hnc52 := NB111_114.out
                              have hcz53_0 : wc.cell? ⟨gb114, 0, none⟩ = some (.int .i64 ((rd_T45 l0_3 x4_2).f0)) := (blk_cell BK114.out 0).trans rfl
                              have hcz53_1 : wc.cell? ⟨gb114, 1, none⟩ = some (.int .i64 ((rd_T45 l0_3 x4_2).f1)) := (blk_cell BK114.out 1).trans rfl
                              have hcz53_2 : wc.cell? ⟨gb114, 2, none⟩ = some (.string ((rd_T45 l0_3 x4_2).f2)) := (blk_cell BK114.out 2).trans rfl
                              have hcz53_3 : wc.cell? ⟨gb114, 3, none⟩ = some (.int .i64 ((rd_T45 l0_3 x4_2).f3)) := (blk_cell BK114.out 3).trans rfl
                              have hfz53_0 := blk_frozen BK114.out 0
                              have hfz53_1 := blk_frozen BK114.out 1
                              have hfz53_2 := blk_frozen BK114.out 2
                              have hfz53_3 := blk_frozen BK114.out 3
                              go_wp2
                              go_roundg kj17
                              case measure => have := HJ1.out; have := HK2.out; have := HJ17.out; omega
                              case rel => exact ⟨(wrap64 (((rd_T45 l0_3 x4_2).f0) + 4)), (wrap64 (x4_2 + 1)), (by first | rfl | (simp; done) | (simp [*]; done)), (by first | rfl | (simp; done) | (simp [*]; done)), H', ⟨by have := HJ1.out; have := HK2.out; have := HJ17.out; omega⟩, ⟨by (with_reducible repeat (first | refine blk_drewN ?_ _ | refine blk_drew ?_ | refine blk_alloc ?_ _)); exact BK111.out⟩, ⟨by repeat (first | (with_reducible first | exact HB.out | apply below_alloc | apply pw_below_drewN | apply below_drew1 | refine below_set ?_ GE111.out | refine below_set ?_ GE114.out) | exact HB.out)⟩⟩
                            · rw [if_neg c51] at H
                              have c51b0 : decide (((rd_T45 l0_3 x4_2).f3) ≤ 2147483647) = false := decide_eq_false c51
                              clear c51
                              obtain rfl := Option.some.inj H
                              have hnb54 := NB114_111.out
                              have hnc54 := NB111_114.out
                              have hcz55_0 : wc.cell? ⟨gb114, 0, none⟩ = some (.int .i64 ((rd_T45 l0_3 x4_2).f0)) := (blk_cell BK114.out 0).trans rfl
                              have hcz55_1 : wc.cell? ⟨gb114, 1, none⟩ = some (.int .i64 ((rd_T45 l0_3 x4_2).f1)) := (blk_cell BK114.out 1).trans rfl
                              have hcz55_2 : wc.cell? ⟨gb114, 2, none⟩ = some (.string ((rd_T45 l0_3 x4_2).f2)) := (blk_cell BK114.out 2).trans rfl
                              have hcz55_3 : wc.cell? ⟨gb114, 3, none⟩ = some (.int .i64 ((rd_T45 l0_3 x4_2).f3)) := (blk_cell BK114.out 3).trans rfl
                              have hfz55_0 := blk_frozen BK114.out 0
                              have hfz55_1 := blk_frozen BK114.out 1
                              have hfz55_2 := blk_frozen BK114.out 2
                              have hfz55_3 := blk_frozen BK114.out 3
                              go_wp2
                              go_ret
                              exact ⟨by first | rfl | (simp [errW_none, errW_some] <;> rfl) | (simp [*, errW_none, errW_some] <;> rfl), by repeat (first | (with_reducible first | exact HB.out | apply below_alloc | apply pw_below_drewN | apply below_drew1 | refine below_set ?_ GE111.out | refine below_set ?_ GE114.out) | exact HB.out)⟩
                          · rw [if_neg c50] at H
                            have c50b0 : decide ((-2147483648) ≤ ((rd_T45 l0_3 x4_2).f3)) = false := decide_eq_false c50
                            clear c50
                            obtain rfl := Option.some.inj H
                            have hnb56 := NB114_111.out
                            have hnc56 := NB111_114.out
                            have hcz57_0 : wc.cell? ⟨gb114, 0, none⟩ = some (.int .i64 ((rd_T45 l0_3 x4_2).f0)) := (blk_cell BK114.out 0).trans rfl
                            have hcz57_1 : wc.cell? ⟨gb114, 1, none⟩ = some (.int .i64 ((rd_T45 l0_3 x4_2).f1)) := (blk_cell BK114.out 1).trans rfl
                            have hcz57_2 : wc.cell? ⟨gb114, 2, none⟩ = some (.string ((rd_T45 l0_3 x4_2).f2)) := (blk_cell BK114.out 2).trans rfl
                            have hcz57_3 : wc.cell? ⟨gb114, 3, none⟩ = some (.int .i64 ((rd_T45 l0_3 x4_2).f3)) := (blk_cell BK114.out 3).trans rfl
                            have hfz57_0 := blk_frozen BK114.out 0
                            have hfz57_1 := blk_frozen BK114.out 1
                            have hfz57_2 := blk_frozen BK114.out 2
                            have hfz57_3 := blk_frozen BK114.out 3
                            go_wp2
                            go_ret
                            exact ⟨by first | rfl | (simp [errW_none, errW_some] <;> rfl) | (simp [*, errW_none, errW_some] <;> rfl), by repeat (first | (with_reducible first | exact HB.out | apply below_alloc | apply pw_below_drewN | apply below_drew1 | refine below_set ?_ GE111.out | refine below_set ?_ GE114.out) | exact HB.out)⟩
                        · rw [if_neg c49] at H
                          have c49b0 : (((rd_T45 l0_3 x4_2).f1) == 2) = false := beq_eq_false_iff_ne.mpr c49
                          have c49b1 : (((rd_T45 l0_3 x4_2).f1) != 2) = true := bne_iff_ne.mpr c49
                          obtain rfl := Option.some.inj H
                          have hnb58 := NB114_111.out
                          have hnc58 := NB111_114.out
                          have hcz59_0 : wc.cell? ⟨gb114, 0, none⟩ = some (.int .i64 ((rd_T45 l0_3 x4_2).f0)) := (blk_cell BK114.out 0).trans rfl
                          have hcz59_1 : wc.cell? ⟨gb114, 1, none⟩ = some (.int .i64 ((rd_T45 l0_3 x4_2).f1)) := (blk_cell BK114.out 1).trans rfl
                          have hcz59_2 : wc.cell? ⟨gb114, 2, none⟩ = some (.string ((rd_T45 l0_3 x4_2).f2)) := (blk_cell BK114.out 2).trans rfl
                          have hcz59_3 : wc.cell? ⟨gb114, 3, none⟩ = some (.int .i64 ((rd_T45 l0_3 x4_2).f3)) := (blk_cell BK114.out 3).trans rfl
                          have hfz59_0 := blk_frozen BK114.out 0
                          have hfz59_1 := blk_frozen BK114.out 1
                          have hfz59_2 := blk_frozen BK114.out 2
                          have hfz59_3 := blk_frozen BK114.out 3
                          go_wp2
                          go_ret
                          exact ⟨by first | rfl | (simp [errW_none, errW_some] <;> rfl) | (simp [*, errW_none, errW_some] <;> rfl), by repeat (first | (with_reducible first | exact HB.out | apply below_alloc | apply pw_below_drewN | apply below_drew1 | refine below_set ?_ GE111.out | refine below_set ?_ GE114.out) | exact HB.out)⟩
              · rw [if_neg c17] at H
                exact absurd H (by simp)
            · rw [if_neg c16] at H
              have c16b0 : decide (x4_2 < (l0_3.length : Int)) = false := decide_eq_false c16
              clear c16
              obtain rfl := Option.some.inj H
              have hcz60_0 : wr.cell? ⟨gb111, 0, none⟩ = some (.string a0_0) := (blk_cell BK111.out 0).trans rfl
              have hcz60_1 : wr.cell? ⟨gb111, 1, none⟩ = some (.slice A0_1 l0_1.length c0_1) := (blk_cell BK111.out 1).trans rfl
              have hcz60_2 : wr.cell? ⟨gb111, 2, none⟩ = some (.slice A0_2 l0_2.length c0_2) := (blk_cell BK111.out 2).trans rfl
              have hcz60_3 : wr.cell? ⟨gb111, 3, none⟩ = some (.slice A0_3 l0_3.length c0_3) := (blk_cell BK111.out 3).trans rfl
              have hfz60_0 := blk_frozen BK111.out 0
              have hfz60_1 := blk_frozen BK111.out 1
              have hfz60_2 := blk_frozen BK111.out 2
              have hfz60_3 := blk_frozen BK111.out 3
              go_wp2
              go_ret
              exact ⟨by first | rfl | (simp [errW_none, errW_some] <;> rfl) | (simp [*, errW_none, errW_some] <;> rfl), by repeat (first | (with_reducible first | exact HB.out | apply below_alloc | apply pw_below_drewN | apply below_drew1 | refine below_set ?_ GE111.out) | exact HB.out)⟩

end Go.Proofs.Yteaealmnmmcbpaa.M

