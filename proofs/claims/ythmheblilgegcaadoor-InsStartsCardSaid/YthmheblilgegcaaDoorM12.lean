-- Written by a program of this session (wip/ownprint.py) over the translation. Lean checks it.
import Derived.Test.YthmheblilgegcaaDoorM0
import Derived.Test.YthmheblilgegcaaDoorM8
import Derived.Test.YthmheblilgegcaaDoorM9
import Derived.Test.YthmheblilgegcaaDoorM10
import Derived.Test.YthmheblilgegcaaDoorM11
namespace Go.Proofs.YthmheblilgegcaaDoor.M
open Go.RowKit Go.Proofs.YthmheblilgegcaaDoorW.PrintWords Go.Proofs.YthmheblilgegcaaDoorW.PrintLast
set_option linter.unusedVariables false
set_option linter.unusedSimpArgs false

/-! ### cotterref03_Decode: function 15 -/
mutual
def cotterref03_Decode.j0 : Nat → ByteArray → Int → Bool → Option (Int × Int × Int × Int × Int × Int)
  | 0, _, _, _ => none
  | k + 1, x0, x1, x21 => if x21 = true then (some (0, 0, 0, 0, 0, 1)) else (if x1 = (x0.size : Int) then (some (0, 0, 0, 0, 0, 9)) else (if 0 ≤ x1 then (if x1 < (x0.size : Int) then ((cotterref03_Size.f k (wrap64 (bt x0 x1))).bind fun t192 => (if t192 = 0 then (cotterref03_Decode.j1 k x0 x1 t192 true (wrap64 (bt x0 x1)) 0 0 0) else (cotterref03_Decode.j1 k x0 x1 t192 (decide ((wrap64 (x1 + t192)) > (x0.size : Int))) (wrap64 (bt x0 x1)) 0 0 0))) else (none)) else (none)))
def cotterref03_Decode.j1 : Nat → ByteArray → Int → Int → Bool → Int → Int → Int → Int → Option (Int × Int × Int × Int × Int × Int)
  | 0, _, _, _, _, _, _, _, _ => none
  | k + 1, x0, x1, x8, x45, x192000, x192001, x192002, x192003 => if x45 = true then (some (0, 0, 0, 0, 0, 9)) else ((cotterref03_form.f k x192000).bind fun t193 => ((cotterref03_parts.f k t193).bind fun bt194 => (if bt194.2.1 = true then (if 0 ≤ (wrap64 (x1 + 1)) then (if (wrap64 (x1 + 1)) < (x0.size : Int) then (cotterref03_Decode.j2 k x0 x1 x8 bt194.2.2 x192000 (wrap64 (Int.tdiv (wrap64 (bt x0 (wrap64 (x1 + 1)))) 16)) (Int.tmod (wrap64 (bt x0 (wrap64 (x1 + 1)))) 16) x192003) else (none)) else (none)) else (if bt194.1 = true then (if 0 ≤ (wrap64 (x1 + 1)) then (if (wrap64 (x1 + 1)) < (x0.size : Int) then (cotterref03_Decode.j2 k x0 x1 x8 bt194.2.2 x192000 (wrap64 (bt x0 (wrap64 (x1 + 1)))) x192002 x192003) else (none)) else (none)) else (cotterref03_Decode.j2 k x0 x1 x8 bt194.2.2 x192000 x192001 x192002 x192003)))))
def cotterref03_Decode.j2 : Nat → ByteArray → Int → Int → Int → Int → Int → Int → Int → Option (Int × Int × Int × Int × Int × Int)
  | 0, _, _, _, _, _, _, _, _ => none
  | k + 1, x0, x1, x8, x11, x192000, x192001, x192002, x192003 => if x11 > 0 then (if 0 ≤ (wrap64 ((wrap64 (x1 + x8)) - x11)) then (if (wrap64 ((wrap64 (x1 + x8)) - x11)) ≤ (wrap64 (x1 + x8)) then (if (wrap64 (x1 + x8)) ≤ (x0.size : Int) then ((cotterref01_Number.f k (x0.extract ((wrap64 ((wrap64 (x1 + x8)) - x11)) : Int).toNat ((wrap64 (x1 + x8)) : Int).toNat)).bind fun bt197 => ((cotterref03_Encode.f k x192000 x192001 x192002 bt197.1).bind fun bt199 => (if bt199.2 = 0 then (some (x192000, x192001, x192002, bt197.1, wrap64 (x1 + x8), 0)) else (some (0, 0, 0, 0, 0, 9))))) else (none)) else (none)) else (none)) else ((cotterref03_Encode.f k x192000 x192001 x192002 x192003).bind fun bt201 => (if bt201.2 = 0 then (some (x192000, x192001, x192002, x192003, wrap64 (x1 + x8), 0)) else (some (0, 0, 0, 0, 0, 9))))
end
def cotterref03_Decode.f (k : Nat) (a0 : ByteArray) (a1 : Int) : Option (Int × Int × Int × Int × Int × Int) := if a1 < 0 then (cotterref03_Decode.j0 k a0 a1 true) else (cotterref03_Decode.j0 k a0 a1 (decide (a1 > (a0.size : Int))))
theorem cotterref03_Decode.mono_l : ∀ k, (∀ y0 y1 y2, LeO (cotterref03_Decode.j0 k y0 y1 y2) (cotterref03_Decode.j0 (k + 1) y0 y1 y2)) ∧ (∀ y0 y1 y2 y3 y4 y5 y6 y7, LeO (cotterref03_Decode.j1 k y0 y1 y2 y3 y4 y5 y6 y7) (cotterref03_Decode.j1 (k + 1) y0 y1 y2 y3 y4 y5 y6 y7)) ∧ (∀ y0 y1 y2 y3 y4 y5 y6 y7, LeO (cotterref03_Decode.j2 k y0 y1 y2 y3 y4 y5 y6 y7) (cotterref03_Decode.j2 (k + 1) y0 y1 y2 y3 y4 y5 y6 y7))
  | 0 => ⟨fun _ _ _ r h => by simp [cotterref03_Decode.j0] at h, fun _ _ _ _ _ _ _ _ r h => by simp [cotterref03_Decode.j1] at h, fun _ _ _ _ _ _ _ _ r h => by simp [cotterref03_Decode.j2] at h⟩
  | k + 1 => by
    obtain ⟨ih0, ih1, ih2⟩ := cotterref03_Decode.mono_l k
    refine ⟨?_, ?_, ?_⟩
    · intro y0 y1 y2
      unfold cotterref03_Decode.j0
      repeat' first
      | (with_reducible exact ih0 _ _ _)
      | (with_reducible exact ih1 _ _ _ _ _ _ _ _)
      | (with_reducible exact ih2 _ _ _ _ _ _ _ _)
      | (with_reducible exact cotterref01_Number.mono _ _)
      | (with_reducible exact cotterref03_Encode.mono _ _ _ _ _)
      | (with_reducible exact cotterref03_Size.mono _ _)
      | (with_reducible exact cotterref03_form.mono _ _)
      | (with_reducible exact cotterref03_parts.mono _ _)
      | (with_reducible exact LeO.refl _)
      | (with_reducible exact LeO.none _)
      | (with_reducible refine LeO.ite ?_ ?_)
      | (with_reducible refine LeO.bind ?_ (fun _ => ?_))
      | exact ih0 _ _ _
      | exact ih1 _ _ _ _ _ _ _ _
      | exact ih2 _ _ _ _ _ _ _ _
      | exact cotterref01_Number.mono _ _
      | exact cotterref03_Encode.mono _ _ _ _ _
      | exact cotterref03_Size.mono _ _
      | exact cotterref03_form.mono _ _
      | exact cotterref03_parts.mono _ _
      | exact LeO.none _
      | refine LeO.ite ?_ ?_
      | refine LeO.bind ?_ (fun _ => ?_)
    · intro y0 y1 y2 y3 y4 y5 y6 y7
      unfold cotterref03_Decode.j1
      repeat' first
      | (with_reducible exact ih0 _ _ _)
      | (with_reducible exact ih1 _ _ _ _ _ _ _ _)
      | (with_reducible exact ih2 _ _ _ _ _ _ _ _)
      | (with_reducible exact cotterref01_Number.mono _ _)
      | (with_reducible exact cotterref03_Encode.mono _ _ _ _ _)
      | (with_reducible exact cotterref03_Size.mono _ _)
      | (with_reducible exact cotterref03_form.mono _ _)
      | (with_reducible exact cotterref03_parts.mono _ _)
      | (with_reducible exact LeO.refl _)
      | (with_reducible exact LeO.none _)
      | (with_reducible refine LeO.ite ?_ ?_)
      | (with_reducible refine LeO.bind ?_ (fun _ => ?_))
      | exact ih0 _ _ _
      | exact ih1 _ _ _ _ _ _ _ _
      | exact ih2 _ _ _ _ _ _ _ _
      | exact cotterref01_Number.mono _ _
      | exact cotterref03_Encode.mono _ _ _ _ _
      | exact cotterref03_Size.mono _ _
      | exact cotterref03_form.mono _ _
      | exact cotterref03_parts.mono _ _
      | exact LeO.none _
      | refine LeO.ite ?_ ?_
      | refine LeO.bind ?_ (fun _ => ?_)
    · intro y0 y1 y2 y3 y4 y5 y6 y7
      unfold cotterref03_Decode.j2
      repeat' first
      | (with_reducible exact ih0 _ _ _)
      | (with_reducible exact ih1 _ _ _ _ _ _ _ _)
      | (with_reducible exact ih2 _ _ _ _ _ _ _ _)
      | (with_reducible exact cotterref01_Number.mono _ _)
      | (with_reducible exact cotterref03_Encode.mono _ _ _ _ _)
      | (with_reducible exact cotterref03_Size.mono _ _)
      | (with_reducible exact cotterref03_form.mono _ _)
      | (with_reducible exact cotterref03_parts.mono _ _)
      | (with_reducible exact LeO.refl _)
      | (with_reducible exact LeO.none _)
      | (with_reducible refine LeO.ite ?_ ?_)
      | (with_reducible refine LeO.bind ?_ (fun _ => ?_))
      | exact ih0 _ _ _
      | exact ih1 _ _ _ _ _ _ _ _
      | exact ih2 _ _ _ _ _ _ _ _
      | exact cotterref01_Number.mono _ _
      | exact cotterref03_Encode.mono _ _ _ _ _
      | exact cotterref03_Size.mono _ _
      | exact cotterref03_form.mono _ _
      | exact cotterref03_parts.mono _ _
      | exact LeO.none _
      | refine LeO.ite ?_ ?_
      | refine LeO.bind ?_ (fun _ => ?_)
theorem cotterref03_Decode.mono : ∀ a0 a1 k, LeO (cotterref03_Decode.f k a0 a1) (cotterref03_Decode.f (k + 1) a0 a1) := by
  intro a0 a1 k
  obtain ⟨ih0, ih1, ih2⟩ := cotterref03_Decode.mono_l k
  unfold cotterref03_Decode.f
  repeat' first
      | (with_reducible exact ih0 _ _ _)
      | (with_reducible exact ih1 _ _ _ _ _ _ _ _)
      | (with_reducible exact ih2 _ _ _ _ _ _ _ _)
      | (with_reducible exact cotterref01_Number.mono _ _)
      | (with_reducible exact cotterref03_Encode.mono _ _ _ _ _)
      | (with_reducible exact cotterref03_Size.mono _ _)
      | (with_reducible exact cotterref03_form.mono _ _)
      | (with_reducible exact cotterref03_parts.mono _ _)
      | (with_reducible exact LeO.refl _)
      | (with_reducible exact LeO.none _)
      | (with_reducible refine LeO.ite ?_ ?_)
      | (with_reducible refine LeO.bind ?_ (fun _ => ?_))
      | exact ih0 _ _ _
      | exact ih1 _ _ _ _ _ _ _ _
      | exact ih2 _ _ _ _ _ _ _ _
      | exact cotterref01_Number.mono _ _
      | exact cotterref03_Encode.mono _ _ _ _ _
      | exact cotterref03_Size.mono _ _
      | exact cotterref03_form.mono _ _
      | exact cotterref03_parts.mono _ _
      | exact LeO.none _
      | refine LeO.ite ?_ ?_
      | refine LeO.bind ?_ (fun _ => ?_)
set_option maxHeartbeats 8000000 in
set_option maxRecDepth 100000 in
theorem cotterref03_Decode.calls (k : Nat) (a0 : ByteArray) (a1 : Int) (r1 : Int) (r2 : Int) (r3 : Int) (r4 : Int) (r5 : Int) (r6 : Int) (w : World) (h : cotterref03_Decode.f k a0 a1 = some (r1, r2, r3, r4, r5, r6)) :
    Calls Tryd.prog 15 #[.string a0, .int .i64 a1] w fun e w' => e = .returned (.tuple #[.agg #[.int .i64 r1, .int .i64 r2, .int .i64 r3, .int .i64 r4], .int .i64 r5, .int .i64 r6]) ∧ Below w.heap.size w w' := by
  have hu23 := Tryd.underlying23
  have HB := Aside0.mk (Below.refl w.heap.size w)
  have H : (if a1 < 0 then (cotterref03_Decode.j0 k a0 a1 true) else (cotterref03_Decode.j0 k a0 a1 (decide (a1 > (a0.size : Int))))) = some (r1, r2, r3, r4, r5, r6) := h
  clear h
  have HC3 := Aside0.mk H
  clear H
  go_enter Tryd.func15, Tryd.ntmps15
  go_upto_region 1 with (first | ((with_reducible refine gate_dst (N := 4) rfl ?_); (try (refine gate_guard (by rfl) ?_; dsimp only)); refine box_event ?hg (N := 4) ?hd (cs := #[.int .i64 0, .int .i64 0, .int .i64 0, .int .i64 0]) (t := 23) ?hr ?_; (case hd => rfl); (case hg => rfl); (case hr => first | (go_simp; done) | (go_simp; rfl)); intro gb190 hg w4 hbox hb; have n0_ := Aside0.mk (below_step (by repeat (first | (with_reducible first | exact HB.out | apply below_alloc | apply pw_below_drewN | apply below_drew1) | exact HB.out)) hb); have n1_ := Aside0.mk (hbox); have n2_ := Aside0.mk ((by rw [hg]; exact (below_size (by repeat (first | (with_reducible first | exact HB.out | apply below_alloc | apply pw_below_drewN | apply below_drew1) | exact HB.out))) : w.heap.size ≤ gb190)); have n3_ := Aside0.mk ((by rw [hg]; exact (below_size (by repeat (first | (with_reducible first | exact HB.out | apply below_alloc | apply pw_below_drewN | apply below_drew1) | exact HB.out))) : w.heap.size ≤ gb190)); clear HB; have HB := n0_; have BK190 := n1_; have GW190 := n2_; have GE190 := n3_; clear n0_ n1_ n2_ n3_; clear hb hbox hg))
  (try simp only [Act.put, List.setIfInBounds_toArray, List.set_cons_zero, List.set_cons_succ])
  go_cut [21] (fun v21 wc => ∃ (kq : Nat) (x21_2 : Bool), v21 = .bool x21_2 ∧ Aside0 (cotterref03_Decode.j0 kq a0 a1 x21_2 = some (r1, r2, r3, r4, r5, r6)) ∧ Aside0 (kq ≤ k) ∧ Aside0 (wc.heap[gb190]? = some (.cells #[.int .i64 0, .int .i64 0, .int .i64 0, .int .i64 0] 23 (0, 0))) ∧ Aside0 (Below w.heap.size w wc))
  case first =>
    have H := HC3.out
    clear HC3
    by_cases c5 : a1 < 0
    · rw [if_pos c5] at H
      have c5b0 : decide (a1 < 0) = true := decide_eq_true c5
      clear c5
      (first | rw [c5b0] | (simp only [i64_w, i32_w]; rw [c5b0]) | skip)
      have H' := Aside0.mk H
      clear H
      go_wp2
      go_meet
      case rel => exact ⟨_, (true), (by first | rfl | (simp; done) | (simp [*]; done)), H', ⟨by first | omega | exact Nat.le_refl _⟩, ⟨by (with_reducible repeat (first | refine blk_drewN ?_ _ | refine blk_drew ?_ | refine blk_alloc ?_ _)); exact BK190.out⟩, ⟨by repeat (first | (with_reducible first | exact HB.out | apply below_alloc | apply pw_below_drewN | apply below_drew1 | refine below_set ?_ GE190.out) | exact HB.out)⟩⟩
    · rw [if_neg c5] at H
      have c5b0 : decide (a1 < 0) = false := decide_eq_false c5
      clear c5
      (first | rw [c5b0] | (simp only [i64_w, i32_w]; rw [c5b0]) | skip)
      have H' := Aside0.mk H
      clear H
      go_wp2
      go_meet
      case rel => exact ⟨_, (decide (a1 > (a0.size : Int))), (by first | rfl | (simp; done) | (simp [*]; done)), H', ⟨by first | omega | exact Nat.le_refl _⟩, ⟨by (with_reducible repeat (first | refine blk_drewN ?_ _ | refine blk_drew ?_ | refine blk_alloc ?_ _)); exact BK190.out⟩, ⟨by repeat (first | (with_reducible first | exact HB.out | apply below_alloc | apply pw_below_drewN | apply below_drew1 | refine below_set ?_ GE190.out) | exact HB.out)⟩⟩
  case rest =>
    clear HC3
    try clear c1
    try clear p2
    try clear c5
    try clear c5b0
    obtain ⟨kq, x21_2, rfl, HA, HJ2, BK190, HB⟩ := hcut
    cases kq with
    | zero => exact absurd HA.out (by simp [cotterref03_Decode.j0])
    | succ kj2 =>
      have H := HA.out
      clear HA
      simp only [cotterref03_Decode.j0] at H
      by_cases c6 : x21_2 = true
      · subst c6
        have H1 : (some (0, 0, 0, 0, 0, 1)) = some (r1, r2, r3, r4, r5, r6) := by rw [if_pos rfl] at H; exact H
        clear H
        have H := H1
        clear H1
        simp only [Option.some.injEq, Prod.mk.injEq] at H
        obtain ⟨rfl, rfl, rfl, rfl, rfl, rfl⟩ := H
        have hcz7_0 : wc.cell? ⟨gb190, 0, none⟩ = some (.int .i64 0) := (blk_cell BK190.out 0).trans rfl
        have hcz7_1 : wc.cell? ⟨gb190, 1, none⟩ = some (.int .i64 0) := (blk_cell BK190.out 1).trans rfl
        have hcz7_2 : wc.cell? ⟨gb190, 2, none⟩ = some (.int .i64 0) := (blk_cell BK190.out 2).trans rfl
        have hcz7_3 : wc.cell? ⟨gb190, 3, none⟩ = some (.int .i64 0) := (blk_cell BK190.out 3).trans rfl
        have hfz7_0 := blk_frozen BK190.out 0
        have hfz7_1 := blk_frozen BK190.out 1
        have hfz7_2 := blk_frozen BK190.out 2
        have hfz7_3 := blk_frozen BK190.out 3
        go_wp2
        refine bodyPost_ret (results_ctt rfl _ _ gb190 23 #[.int .i64 0, .int .i64 0, .int .i64 0, .int .i64 0] (0, 0) _ rfl (by (with_reducible repeat (first | refine blk_drewN ?_ _ | refine blk_drew ?_ | refine blk_alloc ?_ _)); refine blk_put (cs := #[.int .i64 0, .int .i64 0, .int .i64 0, .int .i64 0]) ?_ 3 _ rfl; (with_reducible repeat (first | refine blk_drewN ?_ _ | refine blk_drew ?_ | refine blk_alloc ?_ _)); refine blk_put (cs := #[.int .i64 0, .int .i64 0, .int .i64 0, .int .i64 0]) ?_ 2 _ rfl; (with_reducible repeat (first | refine blk_drewN ?_ _ | refine blk_drew ?_ | refine blk_alloc ?_ _)); refine blk_put (cs := #[.int .i64 0, .int .i64 0, .int .i64 0, .int .i64 0]) ?_ 1 _ rfl; (with_reducible repeat (first | refine blk_drewN ?_ _ | refine blk_drew ?_ | refine blk_alloc ?_ _)); refine blk_put (cs := #[.int .i64 0, .int .i64 0, .int .i64 0, .int .i64 0]) ?_ 0 _ rfl; (with_reducible repeat (first | refine blk_drewN ?_ _ | refine blk_drew ?_ | refine blk_alloc ?_ _)); exact BK190.out) Tryd.underlying23 rfl (by kernel_rfl)) rfl ?_
        exact ⟨by first | rfl | (simp [errW_none, errW_some] <;> rfl) | (simp [*, errW_none, errW_some] <;> rfl), by repeat (first | (with_reducible first | exact HB.out | apply below_alloc | apply pw_below_drewN | apply below_drew1 | refine below_set ?_ GE190.out) | exact HB.out)⟩
      · replace c6 := Bool.eq_false_iff.mpr c6
        subst c6
        have H1 : (if a1 = (a0.size : Int) then (some (0, 0, 0, 0, 0, 9)) else (if 0 ≤ a1 then (if a1 < (a0.size : Int) then ((cotterref03_Size.f kj2 (wrap64 (bt a0 a1))).bind fun t192 => (if t192 = 0 then (cotterref03_Decode.j1 kj2 a0 a1 t192 true (wrap64 (bt a0 a1)) 0 0 0) else (cotterref03_Decode.j1 kj2 a0 a1 t192 (decide ((wrap64 (a1 + t192)) > (a0.size : Int))) (wrap64 (bt a0 a1)) 0 0 0))) else (none)) else (none))) = some (r1, r2, r3, r4, r5, r6) := by rw [if_neg (show ¬ (false = true) by decide)] at H; exact H
        clear H
        have H := H1
        clear H1
        by_cases c8 : a1 = (a0.size : Int)
        · rw [if_pos c8] at H
          have c8b0 : (a1 == (a0.size : Int)) = true := beq_iff_eq.mpr c8
          have c8b1 : (a1 != (a0.size : Int)) = false := bne_eq_false_iff_eq.mpr c8
          clear c8
          simp only [Option.some.injEq, Prod.mk.injEq] at H
          obtain ⟨rfl, rfl, rfl, rfl, rfl, rfl⟩ := H
          have hcz9_0 : wc.cell? ⟨gb190, 0, none⟩ = some (.int .i64 0) := (blk_cell BK190.out 0).trans rfl
          have hcz9_1 : wc.cell? ⟨gb190, 1, none⟩ = some (.int .i64 0) := (blk_cell BK190.out 1).trans rfl
          have hcz9_2 : wc.cell? ⟨gb190, 2, none⟩ = some (.int .i64 0) := (blk_cell BK190.out 2).trans rfl
          have hcz9_3 : wc.cell? ⟨gb190, 3, none⟩ = some (.int .i64 0) := (blk_cell BK190.out 3).trans rfl
          have hfz9_0 := blk_frozen BK190.out 0
          have hfz9_1 := blk_frozen BK190.out 1
          have hfz9_2 := blk_frozen BK190.out 2
          have hfz9_3 := blk_frozen BK190.out 3
          go_wp2
          refine bodyPost_ret (results_ctt rfl _ _ gb190 23 #[.int .i64 0, .int .i64 0, .int .i64 0, .int .i64 0] (0, 0) _ rfl (by (with_reducible repeat (first | refine blk_drewN ?_ _ | refine blk_drew ?_ | refine blk_alloc ?_ _)); refine blk_put (cs := #[.int .i64 0, .int .i64 0, .int .i64 0, .int .i64 0]) ?_ 3 _ rfl; (with_reducible repeat (first | refine blk_drewN ?_ _ | refine blk_drew ?_ | refine blk_alloc ?_ _)); refine blk_put (cs := #[.int .i64 0, .int .i64 0, .int .i64 0, .int .i64 0]) ?_ 2 _ rfl; (with_reducible repeat (first | refine blk_drewN ?_ _ | refine blk_drew ?_ | refine blk_alloc ?_ _)); refine blk_put (cs := #[.int .i64 0, .int .i64 0, .int .i64 0, .int .i64 0]) ?_ 1 _ rfl; (with_reducible repeat (first | refine blk_drewN ?_ _ | refine blk_drew ?_ | refine blk_alloc ?_ _)); refine blk_put (cs := #[.int .i64 0, .int .i64 0, .int .i64 0, .int .i64 0]) ?_ 0 _ rfl; (with_reducible repeat (first | refine blk_drewN ?_ _ | refine blk_drew ?_ | refine blk_alloc ?_ _)); exact BK190.out) Tryd.underlying23 rfl (by kernel_rfl)) rfl ?_
          exact ⟨by first | rfl | (simp [errW_none, errW_some] <;> rfl) | (simp [*, errW_none, errW_some] <;> rfl), by repeat (first | (with_reducible first | exact HB.out | apply below_alloc | apply pw_below_drewN | apply below_drew1 | refine below_set ?_ GE190.out) | exact HB.out)⟩
        · rw [if_neg c8] at H
          have c8b0 : (a1 == (a0.size : Int)) = false := beq_eq_false_iff_ne.mpr c8
          have c8b1 : (a1 != (a0.size : Int)) = true := bne_iff_ne.mpr c8
          by_cases c10 : 0 ≤ a1
          · rw [if_pos c10] at H
            have c10b0 : decide (0 ≤ a1) = true := decide_eq_true c10
            clear c10
            by_cases c11 : a1 < (a0.size : Int)
            · rw [if_pos c11] at H
              have c11b0 : decide (a1 < (a0.size : Int)) = true := decide_eq_true c11
              clear c11
              replace H := Option.bind_eq_some_iff.mp H
              obtain ⟨t192, A130, H⟩ := H
              replace H : (if t192 = 0 then (cotterref03_Decode.j1 kj2 a0 a1 t192 true (wrap64 (bt a0 a1)) 0 0 0) else (cotterref03_Decode.j1 kj2 a0 a1 t192 (decide ((wrap64 (a1 + t192)) > (a0.size : Int))) (wrap64 (bt a0 a1)) 0 0 0)) = some (r1, r2, r3, r4, r5, r6) := H
              have A13 := Aside0.mk A130
              clear A130
              have HC14 := Aside0.mk H
              clear H
              have p12 : 0 ≤ (a1 : Int) := of_decide_eq_true (by first | (with_reducible assumption) | assumption)
              have q12 : a1 < (a0.size : Int) := of_decide_eq_true (by first | (with_reducible assumption) | assumption)
              have hx12 := bt_at a0 a1
              replace p12 := eq_true p12
              replace q12 := eq_true q12
              go_upto_region 7 with (first | ((with_reducible refine gate_dst (N := 7) rfl ?_); (try (refine gate_guard (by rfl) ?_; dsimp only)); refine box_event ?hg (N := 7) ?hd (cs := #[.int .i64 0, .int .i64 0, .int .i64 0, .int .i64 0]) (t := 23) ?hr ?_; (case hd => rfl); (case hg => rfl); (case hr => first | (go_simp; done) | (go_simp; rfl)); intro gb191 hg w15 hbox hb; have n0_ := Aside0.mk (blk_below (g := gb190) (o := .cells #[.int .i64 0, .int .i64 0, .int .i64 0, .int .i64 0] 23 (0, 0)) (by (with_reducible repeat (first | refine blk_drewN ?_ _ | refine blk_drew ?_ | refine blk_alloc ?_ _)); exact BK190.out) hb); have n1_ := Aside0.mk (below_step (by repeat (first | (with_reducible first | exact HB.out | apply below_alloc | apply pw_below_drewN | apply below_drew1 | refine below_set ?_ GE190.out) | exact HB.out)) hb); have n2_ := Aside0.mk (hbox); have n3_ := Aside0.mk ((by rw [hg]; exact (below_size (by repeat (first | (with_reducible first | exact HB.out | apply below_alloc | apply pw_below_drewN | apply below_drew1 | refine below_set ?_ GE190.out) | exact HB.out))) : w.heap.size ≤ gb191)); have n4_ := Aside0.mk ((by rw [hg]; exact (below_size (by repeat (first | (with_reducible first | exact HB.out | apply below_alloc | apply pw_below_drewN | apply below_drew1 | refine below_set ?_ GE190.out) | exact HB.out))) : w.heap.size ≤ gb191)); have n5_ := Aside0.mk ((by rw [hg]; exact Nat.ne_of_lt (blk_lt (g := gb190) (o := .cells #[.int .i64 0, .int .i64 0, .int .i64 0, .int .i64 0] 23 (0, 0)) (by (with_reducible repeat (first | refine blk_drewN ?_ _ | refine blk_drew ?_ | refine blk_alloc ?_ _)); exact BK190.out)) : gb190 ≠ gb191)); have n6_ := Aside0.mk ((by rw [hg]; exact Nat.ne_of_gt (blk_lt (g := gb190) (o := .cells #[.int .i64 0, .int .i64 0, .int .i64 0, .int .i64 0] 23 (0, 0)) (by (with_reducible repeat (first | refine blk_drewN ?_ _ | refine blk_drew ?_ | refine blk_alloc ?_ _)); exact BK190.out)) : gb191 ≠ gb190)); clear BK190; clear HB; have BK190 := n0_; have HB := n1_; have BK191 := n2_; have GW191 := n3_; have GE191 := n4_; have NB190_191 := n5_; have NB191_190 := n6_; clear n0_ n1_ n2_ n3_ n4_ n5_ n6_; clear hb hbox hg; have hnb16 := NB191_190.out; have hnc16 := NB190_191.out; have hcz17_0 : w15.cell? ⟨gb191, 0, none⟩ = some (.int .i64 0) := (blk_cell BK191.out 0).trans rfl; have hcz17_1 : w15.cell? ⟨gb191, 1, none⟩ = some (.int .i64 0) := (blk_cell BK191.out 1).trans rfl; have hcz17_2 : w15.cell? ⟨gb191, 2, none⟩ = some (.int .i64 0) := (blk_cell BK191.out 2).trans rfl; have hcz17_3 : w15.cell? ⟨gb191, 3, none⟩ = some (.int .i64 0) := (blk_cell BK191.out 3).trans rfl; have hfz17_0 := blk_frozen BK191.out 0; have hfz17_1 := blk_frozen BK191.out 1; have hfz17_2 := blk_frozen BK191.out 2; have hfz17_3 := blk_frozen BK191.out 3) | ((with_reducible refine gate_callee (f := 12) rfl ?_); refine goesL_ (some 35) rfl rfl Tryd.func12 (by kernel_rfl) rfl #[.int .i64 (wrap64 (bt a0 a1))] rfl (by (try simp only [List.map_toArray, List.map_cons, List.map_nil]); first | done | rfl | (simp only [List.length_drop, List.length_take]; rfl)) ?_; (with_reducible refine (cotterref03_Size.calls kj2 (wrap64 (bt a0 a1)) t192 _ A13.out).mono ?_); rintro e w' ⟨rfl, ⟨nd, rfl⟩⟩; refine ⟨_, rfl, ?_⟩))
              (try simp only [Act.put, List.setIfInBounds_toArray, List.set_cons_zero, List.set_cons_succ])
              go_cut [45] (fun v45 wc => ∃ (kq : Nat) (x45_13 : Bool), v45 = .bool x45_13 ∧ Aside0 (cotterref03_Decode.j1 kq a0 a1 t192 x45_13 (wrap64 (bt a0 a1)) 0 0 0 = some (r1, r2, r3, r4, r5, r6)) ∧ Aside0 (kq ≤ kj2) ∧ Aside0 (wc.heap[gb190]? = some (.cells #[.int .i64 0, .int .i64 0, .int .i64 0, .int .i64 0] 23 (0, 0))) ∧ Aside0 (wc.heap[gb191]? = some (.cells #[.int .i64 (wrap64 (bt a0 a1)), .int .i64 0, .int .i64 0, .int .i64 0] 23 (0, 0))) ∧ Aside0 (Below w.heap.size w wc))
              case first =>
                have H := HC14.out
                clear HC14
                by_cases c18 : t192 = 0
                · rw [if_pos c18] at H
                  have c18b0 : (t192 == 0) = true := beq_iff_eq.mpr c18
                  have c18b1 : (t192 != 0) = false := bne_eq_false_iff_eq.mpr c18
                  clear c18
                  (first | rw [c18b0] | (simp only [i64_w, i32_w]; rw [c18b0]) | skip)
                  have H' := Aside0.mk H
                  clear H
                  go_wp2
                  go_meet
                  case rel => exact ⟨_, (true), (by first | rfl | (simp; done) | (simp [*]; done)), H', ⟨by have := HJ2.out; first | omega | exact Nat.le_refl _⟩, ⟨by (with_reducible repeat (first | refine blk_drewN ?_ _ | refine blk_drew ?_ | refine blk_alloc ?_ _)); refine blk_far ?_ NB190_191.out _; (with_reducible repeat (first | refine blk_drewN ?_ _ | refine blk_drew ?_ | refine blk_alloc ?_ _)); refine blk_far ?_ NB190_191.out _; (with_reducible repeat (first | refine blk_drewN ?_ _ | refine blk_drew ?_ | refine blk_alloc ?_ _)); refine blk_far ?_ NB190_191.out _; (with_reducible repeat (first | refine blk_drewN ?_ _ | refine blk_drew ?_ | refine blk_alloc ?_ _)); refine blk_far ?_ NB190_191.out _; (with_reducible repeat (first | refine blk_drewN ?_ _ | refine blk_drew ?_ | refine blk_alloc ?_ _)); exact BK190.out⟩, ⟨by (with_reducible repeat (first | refine blk_drewN ?_ _ | refine blk_drew ?_ | refine blk_alloc ?_ _)); refine blk_put (cs := #[.int .i64 (wrap64 (bt a0 a1)), .int .i64 0, .int .i64 0, .int .i64 0]) ?_ 3 _ rfl; (with_reducible repeat (first | refine blk_drewN ?_ _ | refine blk_drew ?_ | refine blk_alloc ?_ _)); refine blk_put (cs := #[.int .i64 (wrap64 (bt a0 a1)), .int .i64 0, .int .i64 0, .int .i64 0]) ?_ 2 _ rfl; (with_reducible repeat (first | refine blk_drewN ?_ _ | refine blk_drew ?_ | refine blk_alloc ?_ _)); refine blk_put (cs := #[.int .i64 (wrap64 (bt a0 a1)), .int .i64 0, .int .i64 0, .int .i64 0]) ?_ 1 _ rfl; (with_reducible repeat (first | refine blk_drewN ?_ _ | refine blk_drew ?_ | refine blk_alloc ?_ _)); refine blk_put (cs := #[.int .i64 0, .int .i64 0, .int .i64 0, .int .i64 0]) ?_ 0 _ rfl; (with_reducible repeat (first | refine blk_drewN ?_ _ | refine blk_drew ?_ | refine blk_alloc ?_ _)); exact BK191.out⟩, ⟨by repeat (first | (with_reducible first | exact HB.out | apply below_alloc | apply pw_below_drewN | apply below_drew1 | refine below_set ?_ GE190.out | refine below_set ?_ GE191.out) | exact HB.out)⟩⟩
                · rw [if_neg c18] at H
                  have c18b0 : (t192 == 0) = false := beq_eq_false_iff_ne.mpr c18
                  have c18b1 : (t192 != 0) = true := bne_iff_ne.mpr c18
                  (first | rw [c18b0] | (simp only [i64_w, i32_w]; rw [c18b0]) | skip)
                  have H' := Aside0.mk H
                  clear H
                  go_wp2
                  go_meet
                  case rel => exact ⟨_, (decide ((wrap64 (a1 + t192)) > (a0.size : Int))), (by first | rfl | (simp; done) | (simp [*]; done)), H', ⟨by have := HJ2.out; first | omega | exact Nat.le_refl _⟩, ⟨by (with_reducible repeat (first | refine blk_drewN ?_ _ | refine blk_drew ?_ | refine blk_alloc ?_ _)); refine blk_far ?_ NB190_191.out _; (with_reducible repeat (first | refine blk_drewN ?_ _ | refine blk_drew ?_ | refine blk_alloc ?_ _)); refine blk_far ?_ NB190_191.out _; (with_reducible repeat (first | refine blk_drewN ?_ _ | refine blk_drew ?_ | refine blk_alloc ?_ _)); refine blk_far ?_ NB190_191.out _; (with_reducible repeat (first | refine blk_drewN ?_ _ | refine blk_drew ?_ | refine blk_alloc ?_ _)); refine blk_far ?_ NB190_191.out _; (with_reducible repeat (first | refine blk_drewN ?_ _ | refine blk_drew ?_ | refine blk_alloc ?_ _)); exact BK190.out⟩, ⟨by (with_reducible repeat (first | refine blk_drewN ?_ _ | refine blk_drew ?_ | refine blk_alloc ?_ _)); refine blk_put (cs := #[.int .i64 (wrap64 (bt a0 a1)), .int .i64 0, .int .i64 0, .int .i64 0]) ?_ 3 _ rfl; (with_reducible repeat (first | refine blk_drewN ?_ _ | refine blk_drew ?_ | refine blk_alloc ?_ _)); refine blk_put (cs := #[.int .i64 (wrap64 (bt a0 a1)), .int .i64 0, .int .i64 0, .int .i64 0]) ?_ 2 _ rfl; (with_reducible repeat (first | refine blk_drewN ?_ _ | refine blk_drew ?_ | refine blk_alloc ?_ _)); refine blk_put (cs := #[.int .i64 (wrap64 (bt a0 a1)), .int .i64 0, .int .i64 0, .int .i64 0]) ?_ 1 _ rfl; (with_reducible repeat (first | refine blk_drewN ?_ _ | refine blk_drew ?_ | refine blk_alloc ?_ _)); refine blk_put (cs := #[.int .i64 0, .int .i64 0, .int .i64 0, .int .i64 0]) ?_ 0 _ rfl; (with_reducible repeat (first | refine blk_drewN ?_ _ | refine blk_drew ?_ | refine blk_alloc ?_ _)); exact BK191.out⟩, ⟨by repeat (first | (with_reducible first | exact HB.out | apply below_alloc | apply pw_below_drewN | apply below_drew1 | refine below_set ?_ GE190.out | refine below_set ?_ GE191.out) | exact HB.out)⟩⟩
              case rest =>
                clear HC14
                try clear c1
                try clear p1
                try clear q1
                try clear hx1
                try clear p2
                try clear c5
                try clear c5b0
                try clear c6
                try clear p6
                try clear c8
                try clear c8b0
                try clear c8b1
                try clear c10
                try clear c10b0
                try clear c11
                try clear c11b0
                try clear c12
                try clear p12
                try clear q12
                try clear hx12
                try clear c15
                try clear c16
                try clear c18
                try clear c18b0
                try clear c18b1
                try clear hcz17_0
                try clear hcz17_1
                try clear hcz17_2
                try clear hcz17_3
                try clear hcz7_0
                try clear hcz7_1
                try clear hcz7_2
                try clear hcz7_3
                try clear hcz9_0
                try clear hcz9_1
                try clear hcz9_2
                try clear hcz9_3
                try clear hfz17_0
                try clear hfz17_1
                try clear hfz17_2
                try clear hfz17_3
                try clear hfz7_0
                try clear hfz7_1
                try clear hfz7_2
                try clear hfz7_3
                try clear hfz9_0
                try clear hfz9_1
                try clear hfz9_2
                try clear hfz9_3
                try clear p12
                try clear p2
                try clear q12
                obtain ⟨kq, x45_13, rfl, HA, HJ13, BK190, BK191, HB⟩ := hcut
                cases kq with
                | zero => exact absurd HA.out (by simp [cotterref03_Decode.j1])
                | succ kj13 =>
                  have H := HA.out
                  clear HA
                  simp only [cotterref03_Decode.j1] at H
                  by_cases c19 : x45_13 = true
                  · subst c19
                    have H1 : (some (0, 0, 0, 0, 0, 9)) = some (r1, r2, r3, r4, r5, r6) := by rw [if_pos rfl] at H; exact H
                    clear H
                    have H := H1
                    clear H1
                    simp only [Option.some.injEq, Prod.mk.injEq] at H
                    obtain ⟨rfl, rfl, rfl, rfl, rfl, rfl⟩ := H
                    have hnb20 := NB190_191.out
                    have hnc20 := NB191_190.out
                    have hcz21_0 : wc.cell? ⟨gb190, 0, none⟩ = some (.int .i64 0) := (blk_cell BK190.out 0).trans rfl
                    have hcz21_1 : wc.cell? ⟨gb190, 1, none⟩ = some (.int .i64 0) := (blk_cell BK190.out 1).trans rfl
                    have hcz21_2 : wc.cell? ⟨gb190, 2, none⟩ = some (.int .i64 0) := (blk_cell BK190.out 2).trans rfl
                    have hcz21_3 : wc.cell? ⟨gb190, 3, none⟩ = some (.int .i64 0) := (blk_cell BK190.out 3).trans rfl
                    have hfz21_0 := blk_frozen BK190.out 0
                    have hfz21_1 := blk_frozen BK190.out 1
                    have hfz21_2 := blk_frozen BK190.out 2
                    have hfz21_3 := blk_frozen BK190.out 3
                    go_wp2
                    refine bodyPost_ret (results_ctt rfl _ _ gb190 23 #[.int .i64 0, .int .i64 0, .int .i64 0, .int .i64 0] (0, 0) _ rfl (by (with_reducible repeat (first | refine blk_drewN ?_ _ | refine blk_drew ?_ | refine blk_alloc ?_ _)); refine blk_put (cs := #[.int .i64 0, .int .i64 0, .int .i64 0, .int .i64 0]) ?_ 3 _ rfl; (with_reducible repeat (first | refine blk_drewN ?_ _ | refine blk_drew ?_ | refine blk_alloc ?_ _)); refine blk_put (cs := #[.int .i64 0, .int .i64 0, .int .i64 0, .int .i64 0]) ?_ 2 _ rfl; (with_reducible repeat (first | refine blk_drewN ?_ _ | refine blk_drew ?_ | refine blk_alloc ?_ _)); refine blk_put (cs := #[.int .i64 0, .int .i64 0, .int .i64 0, .int .i64 0]) ?_ 1 _ rfl; (with_reducible repeat (first | refine blk_drewN ?_ _ | refine blk_drew ?_ | refine blk_alloc ?_ _)); refine blk_put (cs := #[.int .i64 0, .int .i64 0, .int .i64 0, .int .i64 0]) ?_ 0 _ rfl; (with_reducible repeat (first | refine blk_drewN ?_ _ | refine blk_drew ?_ | refine blk_alloc ?_ _)); exact BK190.out) Tryd.underlying23 rfl (by kernel_rfl)) rfl ?_
                    exact ⟨by first | rfl | (simp [errW_none, errW_some] <;> rfl) | (simp [*, errW_none, errW_some] <;> rfl), by repeat (first | (with_reducible first | exact HB.out | apply below_alloc | apply pw_below_drewN | apply below_drew1 | refine below_set ?_ GE190.out | refine below_set ?_ GE191.out) | exact HB.out)⟩
                  · replace c19 := Bool.eq_false_iff.mpr c19
                    subst c19
                    have H1 : ((cotterref03_form.f kj13 (wrap64 (bt a0 a1))).bind fun t193 => ((cotterref03_parts.f kj13 t193).bind fun bt194 => (if bt194.2.1 = true then (if 0 ≤ (wrap64 (a1 + 1)) then (if (wrap64 (a1 + 1)) < (a0.size : Int) then (cotterref03_Decode.j2 kj13 a0 a1 t192 bt194.2.2 (wrap64 (bt a0 a1)) (wrap64 (Int.tdiv (wrap64 (bt a0 (wrap64 (a1 + 1)))) 16)) (Int.tmod (wrap64 (bt a0 (wrap64 (a1 + 1)))) 16) 0) else (none)) else (none)) else (if bt194.1 = true then (if 0 ≤ (wrap64 (a1 + 1)) then (if (wrap64 (a1 + 1)) < (a0.size : Int) then (cotterref03_Decode.j2 kj13 a0 a1 t192 bt194.2.2 (wrap64 (bt a0 a1)) (wrap64 (bt a0 (wrap64 (a1 + 1)))) 0 0) else (none)) else (none)) else (cotterref03_Decode.j2 kj13 a0 a1 t192 bt194.2.2 (wrap64 (bt a0 a1)) 0 0 0))))) = some (r1, r2, r3, r4, r5, r6) := by rw [if_neg (show ¬ (false = true) by decide)] at H; exact H
                    clear H
                    have H := H1
                    clear H1
                    replace H := Option.bind_eq_some_iff.mp H
                    obtain ⟨t193, A220, H⟩ := H
                    replace H : ((cotterref03_parts.f kj13 t193).bind fun bt194 => (if bt194.2.1 = true then (if 0 ≤ (wrap64 (a1 + 1)) then (if (wrap64 (a1 + 1)) < (a0.size : Int) then (cotterref03_Decode.j2 kj13 a0 a1 t192 bt194.2.2 (wrap64 (bt a0 a1)) (wrap64 (Int.tdiv (wrap64 (bt a0 (wrap64 (a1 + 1)))) 16)) (Int.tmod (wrap64 (bt a0 (wrap64 (a1 + 1)))) 16) 0) else (none)) else (none)) else (if bt194.1 = true then (if 0 ≤ (wrap64 (a1 + 1)) then (if (wrap64 (a1 + 1)) < (a0.size : Int) then (cotterref03_Decode.j2 kj13 a0 a1 t192 bt194.2.2 (wrap64 (bt a0 a1)) (wrap64 (bt a0 (wrap64 (a1 + 1)))) 0 0) else (none)) else (none)) else (cotterref03_Decode.j2 kj13 a0 a1 t192 bt194.2.2 (wrap64 (bt a0 a1)) 0 0 0)))) = some (r1, r2, r3, r4, r5, r6) := H
                    have A22 := Aside0.mk A220
                    clear A220
                    replace H := Option.bind_eq_some_iff.mp H
                    obtain ⟨⟨t194, t195, t196⟩, A230, H⟩ := H
                    replace H : (if t195 = true then (if 0 ≤ (wrap64 (a1 + 1)) then (if (wrap64 (a1 + 1)) < (a0.size : Int) then (cotterref03_Decode.j2 kj13 a0 a1 t192 t196 (wrap64 (bt a0 a1)) (wrap64 (Int.tdiv (wrap64 (bt a0 (wrap64 (a1 + 1)))) 16)) (Int.tmod (wrap64 (bt a0 (wrap64 (a1 + 1)))) 16) 0) else (none)) else (none)) else (if t194 = true then (if 0 ≤ (wrap64 (a1 + 1)) then (if (wrap64 (a1 + 1)) < (a0.size : Int) then (cotterref03_Decode.j2 kj13 a0 a1 t192 t196 (wrap64 (bt a0 a1)) (wrap64 (bt a0 (wrap64 (a1 + 1)))) 0 0) else (none)) else (none)) else (cotterref03_Decode.j2 kj13 a0 a1 t192 t196 (wrap64 (bt a0 a1)) 0 0 0))) = some (r1, r2, r3, r4, r5, r6) := H
                    have A23 := Aside0.mk A230
                    clear A230
                    have HC24 := Aside0.mk H
                    clear H
                    have hnb25 := NB191_190.out
                    have hnc25 := NB190_191.out
                    have hcz26_0 : wc.cell? ⟨gb191, 0, none⟩ = some (.int .i64 (wrap64 (bt a0 a1))) := (blk_cell BK191.out 0).trans rfl
                    have hcz26_1 : wc.cell? ⟨gb191, 1, none⟩ = some (.int .i64 0) := (blk_cell BK191.out 1).trans rfl
                    have hcz26_2 : wc.cell? ⟨gb191, 2, none⟩ = some (.int .i64 0) := (blk_cell BK191.out 2).trans rfl
                    have hcz26_3 : wc.cell? ⟨gb191, 3, none⟩ = some (.int .i64 0) := (blk_cell BK191.out 3).trans rfl
                    have hfz26_0 := blk_frozen BK191.out 0
                    have hfz26_1 := blk_frozen BK191.out 1
                    have hfz26_2 := blk_frozen BK191.out 2
                    have hfz26_3 := blk_frozen BK191.out 3
                    go_upto_if 55 with (first | ((with_reducible refine gate_callee (f := 24) rfl ?_); refine goesL_ (some 50) rfl rfl Tryd.func24 (by kernel_rfl) rfl #[.int .i64 (wrap64 (bt a0 a1))] rfl (by (try simp only [List.map_toArray, List.map_cons, List.map_nil]); first | done | rfl | (simp only [List.length_drop, List.length_take]; rfl)) ?_; (with_reducible refine (cotterref03_form.calls kj13 (wrap64 (bt a0 a1)) t193 _ A22.out).mono ?_); rintro e w' ⟨rfl, ⟨nd, rfl⟩⟩; refine ⟨_, rfl, ?_⟩) | ((with_reducible refine gate_callee (f := 25) rfl ?_); refine goesL_ (some 51) rfl rfl Tryd.func25 (by kernel_rfl) rfl #[.int .i64 t193] rfl (by (try simp only [List.map_toArray, List.map_cons, List.map_nil]); first | done | rfl | (simp only [List.length_drop, List.length_take]; rfl)) ?_; (with_reducible refine (cotterref03_parts.calls kj13 t193 t194 t195 t196 _ A23.out).mono ?_); rintro e w' ⟨rfl, ⟨nd, rfl⟩⟩; refine ⟨_, rfl, ?_⟩))
                    (try simp only [Act.put, List.setIfInBounds_toArray, List.set_cons_zero, List.set_cons_succ])
                    go_cut [] (fun wc => ∃ (kq : Nat) (x192001_23 : Int) (x192002_23 : Int), Aside0 (cotterref03_Decode.j2 kq a0 a1 t192 t196 (wrap64 (bt a0 a1)) x192001_23 x192002_23 0 = some (r1, r2, r3, r4, r5, r6)) ∧ Aside0 (kq ≤ kj13) ∧ Aside0 (wc.heap[gb190]? = some (.cells #[.int .i64 0, .int .i64 0, .int .i64 0, .int .i64 0] 23 (0, 0))) ∧ Aside0 (wc.heap[gb191]? = some (.cells #[.int .i64 (wrap64 (bt a0 a1)), .int .i64 x192001_23, .int .i64 x192002_23, .int .i64 0] 23 (0, 0))) ∧ Aside0 (Below w.heap.size w wc))
                    case first =>
                      have H := HC24.out
                      clear HC24
                      by_cases c27 : t195 = true
                      · subst c27
                        have H1 : (if 0 ≤ (wrap64 (a1 + 1)) then (if (wrap64 (a1 + 1)) < (a0.size : Int) then (cotterref03_Decode.j2 kj13 a0 a1 t192 t196 (wrap64 (bt a0 a1)) (wrap64 (Int.tdiv (wrap64 (bt a0 (wrap64 (a1 + 1)))) 16)) (Int.tmod (wrap64 (bt a0 (wrap64 (a1 + 1)))) 16) 0) else (none)) else (none)) = some (r1, r2, r3, r4, r5, r6) := by rw [if_pos rfl] at H; exact H
                        clear H
                        have H := H1
                        clear H1
                        obtain ⟨ji28, hji28⟩ : ∃ j_ : Int, (wrap64 (a1 + 1)) = j_ := ⟨_, rfl⟩
                        replace H : (if 0 ≤ (ji28) then (if (ji28) < (a0.size : Int) then (cotterref03_Decode.j2 kj13 a0 a1 t192 t196 (wrap64 (bt a0 a1)) (wrap64 (Int.tdiv (wrap64 (bt a0 (ji28))) 16)) (Int.tmod (wrap64 (bt a0 (ji28))) 16) 0) else (none)) else (none)) = some (r1, r2, r3, r4, r5, r6) := by first | (rw [hji28] at H; exact H) | (simp only [hji28] at H ⊢; exact H)
                        have hji28w : (IntKind.i64.wrap (a1 + 1)) = ji28 := (i64_w _).trans hji28
                        by_cases c29 : 0 ≤ (ji28)
                        · rw [if_pos c29] at H
                          have c29b0 : decide (0 ≤ (ji28)) = true := decide_eq_true c29
                          clear c29
                          (first | rw [c29b0] | (simp only [i64_w, i32_w]; rw [c29b0]) | skip)
                          by_cases c30 : (ji28) < (a0.size : Int)
                          · rw [if_pos c30] at H
                            have c30b0 : decide ((ji28) < (a0.size : Int)) = true := decide_eq_true c30
                            clear c30
                            have H' := Aside0.mk H
                            clear H
                            have p31 : 0 ≤ ((ji28) : Int) := of_decide_eq_true (by first | (with_reducible assumption) | assumption)
                            have q31 : (ji28) < (a0.size : Int) := of_decide_eq_true (by first | (with_reducible assumption) | assumption)
                            have hx31 := bt_at a0 (ji28)
                            replace p31 := eq_true p31
                            replace q31 := eq_true q31
                            have hnb33 := NB191_190.out
                            have hnc33 := NB190_191.out
                            have hcz34_0 : wc.cell? ⟨gb191, 0, none⟩ = some (.int .i64 (wrap64 (bt a0 a1))) := (blk_cell BK191.out 0).trans rfl
                            have hcz34_1 : wc.cell? ⟨gb191, 1, none⟩ = some (.int .i64 0) := (blk_cell BK191.out 1).trans rfl
                            have hcz34_2 : wc.cell? ⟨gb191, 2, none⟩ = some (.int .i64 0) := (blk_cell BK191.out 2).trans rfl
                            have hcz34_3 : wc.cell? ⟨gb191, 3, none⟩ = some (.int .i64 0) := (blk_cell BK191.out 3).trans rfl
                            have hfz34_0 := blk_frozen BK191.out 0
                            have hfz34_1 := blk_frozen BK191.out 1
                            have hfz34_2 := blk_frozen BK191.out 2
                            have hfz34_3 := blk_frozen BK191.out 3
                            have p32 : 0 ≤ ((ji28) : Int) := of_decide_eq_true (by first | (with_reducible assumption) | assumption)
                            have q32 : (ji28) < (a0.size : Int) := of_decide_eq_true (by first | (with_reducible assumption) | assumption)
                            have hx32 := bt_at a0 (ji28)
                            replace p32 := eq_true p32
                            replace q32 := eq_true q32
                            go_wp2
                            go_meet
                            case rel => exact ⟨_, (wrap64 (Int.tdiv (wrap64 (bt a0 (ji28))) 16)), (Int.tmod (wrap64 (bt a0 (ji28))) 16), H', ⟨by have := HJ2.out; have := HJ13.out; first | omega | exact Nat.le_refl _⟩, ⟨by (with_reducible repeat (first | refine blk_drewN ?_ _ | refine blk_drew ?_ | refine blk_alloc ?_ _)); refine blk_far ?_ NB190_191.out _; (with_reducible repeat (first | refine blk_drewN ?_ _ | refine blk_drew ?_ | refine blk_alloc ?_ _)); refine blk_far ?_ NB190_191.out _; (with_reducible repeat (first | refine blk_drewN ?_ _ | refine blk_drew ?_ | refine blk_alloc ?_ _)); exact BK190.out⟩, ⟨by (with_reducible repeat (first | refine blk_drewN ?_ _ | refine blk_drew ?_ | refine blk_alloc ?_ _)); refine blk_put (cs := #[.int .i64 (wrap64 (bt a0 a1)), .int .i64 (wrap64 (Int.tdiv (wrap64 (bt a0 (ji28))) 16)), .int .i64 0, .int .i64 0]) ?_ 2 _ rfl; (with_reducible repeat (first | refine blk_drewN ?_ _ | refine blk_drew ?_ | refine blk_alloc ?_ _)); refine blk_put (cs := #[.int .i64 (wrap64 (bt a0 a1)), .int .i64 0, .int .i64 0, .int .i64 0]) ?_ 1 _ rfl; (with_reducible repeat (first | refine blk_drewN ?_ _ | refine blk_drew ?_ | refine blk_alloc ?_ _)); exact BK191.out⟩, ⟨by repeat (first | (with_reducible first | exact HB.out | apply below_alloc | apply pw_below_drewN | apply below_drew1 | refine below_set ?_ GE190.out | refine below_set ?_ GE191.out) | exact HB.out)⟩⟩
                          · rw [if_neg c30] at H
                            exact absurd H (by simp)
                        · rw [if_neg c29] at H
                          exact absurd H (by simp)
                      · replace c27 := Bool.eq_false_iff.mpr c27
                        subst c27
                        have H1 : (if t194 = true then (if 0 ≤ (wrap64 (a1 + 1)) then (if (wrap64 (a1 + 1)) < (a0.size : Int) then (cotterref03_Decode.j2 kj13 a0 a1 t192 t196 (wrap64 (bt a0 a1)) (wrap64 (bt a0 (wrap64 (a1 + 1)))) 0 0) else (none)) else (none)) else (cotterref03_Decode.j2 kj13 a0 a1 t192 t196 (wrap64 (bt a0 a1)) 0 0 0)) = some (r1, r2, r3, r4, r5, r6) := by rw [if_neg (show ¬ (false = true) by decide)] at H; exact H
                        clear H
                        have H := H1
                        clear H1
                        by_cases c35 : t194 = true
                        · subst c35
                          have H1 : (if 0 ≤ (wrap64 (a1 + 1)) then (if (wrap64 (a1 + 1)) < (a0.size : Int) then (cotterref03_Decode.j2 kj13 a0 a1 t192 t196 (wrap64 (bt a0 a1)) (wrap64 (bt a0 (wrap64 (a1 + 1)))) 0 0) else (none)) else (none)) = some (r1, r2, r3, r4, r5, r6) := by rw [if_pos rfl] at H; exact H
                          clear H
                          have H := H1
                          clear H1
                          obtain ⟨ji36, hji36⟩ : ∃ j_ : Int, (wrap64 (a1 + 1)) = j_ := ⟨_, rfl⟩
                          replace H : (if 0 ≤ (ji36) then (if (ji36) < (a0.size : Int) then (cotterref03_Decode.j2 kj13 a0 a1 t192 t196 (wrap64 (bt a0 a1)) (wrap64 (bt a0 (ji36))) 0 0) else (none)) else (none)) = some (r1, r2, r3, r4, r5, r6) := by first | (rw [hji36] at H; exact H) | (simp only [hji36] at H ⊢; exact H)
                          have hji36w : (IntKind.i64.wrap (a1 + 1)) = ji36 := (i64_w _).trans hji36
                          by_cases c37 : 0 ≤ (ji36)
                          · rw [if_pos c37] at H
                            have c37b0 : decide (0 ≤ (ji36)) = true := decide_eq_true c37
                            clear c37
                            by_cases c38 : (ji36) < (a0.size : Int)
                            · rw [if_pos c38] at H
                              have c38b0 : decide ((ji36) < (a0.size : Int)) = true := decide_eq_true c38
                              clear c38
                              have H' := Aside0.mk H
                              clear H
                              have p39 : 0 ≤ ((ji36) : Int) := of_decide_eq_true (by first | (with_reducible assumption) | assumption)
                              have q39 : (ji36) < (a0.size : Int) := of_decide_eq_true (by first | (with_reducible assumption) | assumption)
                              have hx39 := bt_at a0 (ji36)
                              replace p39 := eq_true p39
                              replace q39 := eq_true q39
                              have hnb40 := NB191_190.out
                              have hnc40 := NB190_191.out
                              have hcz41_0 : wc.cell? ⟨gb191, 0, none⟩ = some (.int .i64 (wrap64 (bt a0 a1))) := (blk_cell BK191.out 0).trans rfl
                              have hcz41_1 : wc.cell? ⟨gb191, 1, none⟩ = some (.int .i64 0) := (blk_cell BK191.out 1).trans rfl
                              have hcz41_2 : wc.cell? ⟨gb191, 2, none⟩ = some (.int .i64 0) := (blk_cell BK191.out 2).trans rfl
                              have hcz41_3 : wc.cell? ⟨gb191, 3, none⟩ = some (.int .i64 0) := (blk_cell BK191.out 3).trans rfl
                              have hfz41_0 := blk_frozen BK191.out 0
                              have hfz41_1 := blk_frozen BK191.out 1
                              have hfz41_2 := blk_frozen BK191.out 2
                              have hfz41_3 := blk_frozen BK191.out 3
                              go_wp2
                              go_meet
                              case rel => exact ⟨_, (wrap64 (bt a0 (ji36))), (0), H', ⟨by have := HJ2.out; have := HJ13.out; first | omega | exact Nat.le_refl _⟩, ⟨by (with_reducible repeat (first | refine blk_drewN ?_ _ | refine blk_drew ?_ | refine blk_alloc ?_ _)); refine blk_far ?_ NB190_191.out _; (with_reducible repeat (first | refine blk_drewN ?_ _ | refine blk_drew ?_ | refine blk_alloc ?_ _)); exact BK190.out⟩, ⟨by (with_reducible repeat (first | refine blk_drewN ?_ _ | refine blk_drew ?_ | refine blk_alloc ?_ _)); refine blk_put (cs := #[.int .i64 (wrap64 (bt a0 a1)), .int .i64 0, .int .i64 0, .int .i64 0]) ?_ 1 _ rfl; (with_reducible repeat (first | refine blk_drewN ?_ _ | refine blk_drew ?_ | refine blk_alloc ?_ _)); exact BK191.out⟩, ⟨by repeat (first | (with_reducible first | exact HB.out | apply below_alloc | apply pw_below_drewN | apply below_drew1 | refine below_set ?_ GE190.out | refine below_set ?_ GE191.out) | exact HB.out)⟩⟩
                            · rw [if_neg c38] at H
                              exact absurd H (by simp)
                          · rw [if_neg c37] at H
                            exact absurd H (by simp)
                        · replace c35 := Bool.eq_false_iff.mpr c35
                          subst c35
                          have H1 : (cotterref03_Decode.j2 kj13 a0 a1 t192 t196 (wrap64 (bt a0 a1)) 0 0 0) = some (r1, r2, r3, r4, r5, r6) := by rw [if_neg (show ¬ (false = true) by decide)] at H; exact H
                          clear H
                          have H := H1
                          clear H1
                          have H' := Aside0.mk H
                          clear H
                          go_wp2
                          go_meet
                          case rel => exact ⟨_, (0), (0), H', ⟨by have := HJ2.out; have := HJ13.out; first | omega | exact Nat.le_refl _⟩, ⟨by (with_reducible repeat (first | refine blk_drewN ?_ _ | refine blk_drew ?_ | refine blk_alloc ?_ _)); exact BK190.out⟩, ⟨by (with_reducible repeat (first | refine blk_drewN ?_ _ | refine blk_drew ?_ | refine blk_alloc ?_ _)); exact BK191.out⟩, ⟨by repeat (first | (with_reducible first | exact HB.out | apply below_alloc | apply pw_below_drewN | apply below_drew1 | refine below_set ?_ GE190.out | refine below_set ?_ GE191.out) | exact HB.out)⟩⟩
                    case rest =>
                      clear HC24
                      try clear c1
                      try clear p1
                      try clear q1
                      try clear hx1
                      try clear c2
                      try clear p2
                      try clear c3
                      try clear p3
                      try clear q3
                      try clear hx3
                      try clear c4
                      try clear c5
                      try clear c5b0
                      try clear c6
                      try clear p6
                      try clear c8
                      try clear c8b0
                      try clear c8b1
                      try clear c10
                      try clear c10b0
                      try clear c11
                      try clear c11b0
                      try clear c12
                      try clear p12
                      try clear q12
                      try clear hx12
                      try clear c15
                      try clear c16
                      try clear c18
                      try clear c18b0
                      try clear c18b1
                      try clear c19
                      try clear c20
                      try clear c24
                      try clear c25
                      try clear c27
                      try clear c29
                      try clear c29b0
                      try clear c30
                      try clear c30b0
                      try clear p31
                      try clear q31
                      try clear hx31
                      try clear p32
                      try clear q32
                      try clear hx32
                      try clear c33
                      try clear c35
                      try clear c37
                      try clear c37b0
                      try clear c38
                      try clear c38b0
                      try clear p39
                      try clear q39
                      try clear hx39
                      try clear c40
                      try clear hcz17_0
                      try clear hcz17_1
                      try clear hcz17_2
                      try clear hcz17_3
                      try clear hcz21_0
                      try clear hcz21_1
                      try clear hcz21_2
                      try clear hcz21_3
                      try clear hcz26_0
                      try clear hcz26_1
                      try clear hcz26_2
                      try clear hcz26_3
                      try clear hcz34_0
                      try clear hcz34_1
                      try clear hcz34_2
                      try clear hcz34_3
                      try clear hcz41_0
                      try clear hcz41_1
                      try clear hcz41_2
                      try clear hcz41_3
                      try clear hcz7_0
                      try clear hcz7_1
                      try clear hcz7_2
                      try clear hcz7_3
                      try clear hcz9_0
                      try clear hcz9_1
                      try clear hcz9_2
                      try clear hcz9_3
                      try clear hfz17_0
                      try clear hfz17_1
                      try clear hfz17_2
                      try clear hfz17_3
                      try clear hfz21_0
                      try clear hfz21_1
                      try clear hfz21_2
                      try clear hfz21_3
                      try clear hfz26_0
                      try clear hfz26_1
                      try clear hfz26_2
                      try clear hfz26_3
                      try clear hfz34_0
                      try clear hfz34_1
                      try clear hfz34_2
                      try clear hfz34_3
                      try clear hfz41_0
                      try clear hfz41_1
                      try clear hfz41_2
                      try clear hfz41_3
                      try clear hfz7_0
                      try clear hfz7_1
                      try clear hfz7_2
                      try clear hfz7_3
                      try clear hfz9_0
                      try clear hfz9_1
                      try clear hfz9_2
                      try clear hfz9_3
                      try clear p1
                      try clear p12
                      try clear p2
                      try clear p31
                      try clear p32
                      try clear p39
                      try clear p6
                      try clear q1
                      try clear q12
                      try clear q31
                      try clear q32
                      try clear q39
                      obtain ⟨kq, x192001_23, x192002_23, HA, HJ23, BK190, BK191, HB⟩ := hcut
                      cases kq with
                      | zero => exact absurd HA.out (by simp [cotterref03_Decode.j2])
                      | succ kj23 =>
                        have H := HA.out
                        clear HA
                        simp only [cotterref03_Decode.j2] at H
                        by_cases c42 : t196 > 0
                        · rw [if_pos c42] at H
                          have c42b0 : decide (0 < t196) = true := decide_eq_true c42
                          clear c42
                          obtain ⟨ji43, hji43⟩ : ∃ j_ : Int, (wrap64 ((wrap64 (a1 + t192)) - t196)) = j_ := ⟨_, rfl⟩
                          replace H : (if 0 ≤ (ji43) then (if (ji43) ≤ (wrap64 (a1 + t192)) then (if (wrap64 (a1 + t192)) ≤ (a0.size : Int) then ((cotterref01_Number.f kj23 (a0.extract ((ji43) : Int).toNat ((wrap64 (a1 + t192)) : Int).toNat)).bind fun bt197 => ((cotterref03_Encode.f kj23 (wrap64 (bt a0 a1)) x192001_23 x192002_23 bt197.1).bind fun bt199 => (if bt199.2 = 0 then (some ((wrap64 (bt a0 a1)), x192001_23, x192002_23, bt197.1, wrap64 (a1 + t192), 0)) else (some (0, 0, 0, 0, 0, 9))))) else (none)) else (none)) else (none)) = some (r1, r2, r3, r4, r5, r6) := by first | (rw [hji43] at H; exact H) | (simp only [hji43] at H ⊢; exact H)
                          have hji43w : (IntKind.i64.wrap ((wrap64 (a1 + t192)) - t196)) = ji43 := (i64_w _).trans hji43
                          by_cases c44 : 0 ≤ (ji43)
                          · rw [if_pos c44] at H
                            have c44b0 := eq_true c44
                            have c44b1 : decide (0 ≤ (ji43)) = true := decide_eq_true c44
                            clear c44
                            by_cases c45 : (ji43) ≤ (wrap64 (a1 + t192))
                            · rw [if_pos c45] at H
                              have c45b0 := eq_true c45
                              have c45b1 : decide ((ji43) ≤ (wrap64 (a1 + t192))) = true := decide_eq_true c45
                              by_cases c46 : (wrap64 (a1 + t192)) ≤ (a0.size : Int)
                              · rw [if_pos c46] at H
                                have c46b0 := eq_true c46
                                have c46b1 : decide ((wrap64 (a1 + t192)) ≤ (a0.size : Int)) = true := decide_eq_true c46
                                replace H := Option.bind_eq_some_iff.mp H
                                obtain ⟨⟨t197, t198⟩, A470, H⟩ := H
                                replace H : ((cotterref03_Encode.f kj23 (wrap64 (bt a0 a1)) x192001_23 x192002_23 t197).bind fun bt199 => (if bt199.2 = 0 then (some ((wrap64 (bt a0 a1)), x192001_23, x192002_23, t197, wrap64 (a1 + t192), 0)) else (some (0, 0, 0, 0, 0, 9)))) = some (r1, r2, r3, r4, r5, r6) := H
                                have A47 := Aside0.mk A470
                                clear A470
                                replace H := Option.bind_eq_some_iff.mp H
                                obtain ⟨⟨t199, t200⟩, A480, H⟩ := H
                                replace H : (if t200 = 0 then (some ((wrap64 (bt a0 a1)), x192001_23, x192002_23, t197, wrap64 (a1 + t192), 0)) else (some (0, 0, 0, 0, 0, 9))) = some (r1, r2, r3, r4, r5, r6) := H
                                have A48 := Aside0.mk A480
                                clear A480
                                by_cases c49 : t200 = 0
                                · rw [if_pos c49] at H
                                  have c49b0 : (t200 == 0) = true := beq_iff_eq.mpr c49
                                  have c49b1 : (t200 != 0) = false := bne_eq_false_iff_eq.mpr c49
                                  clear c49
                                  simp only [Option.some.injEq, Prod.mk.injEq] at H
                                  obtain ⟨rfl, rfl, rfl, rfl, rfl, rfl⟩ := H
                                  go_wp2_with (first | ((with_reducible refine gate_callee (f := 29) rfl ?_); refine goesL_ (some 90) rfl rfl Tryd.func29 (by kernel_rfl) rfl #[.string (a0.extract ((ji43) : Int).toNat ((wrap64 (a1 + t192)) : Int).toNat)] rfl (by (try simp only [List.map_toArray, List.map_cons, List.map_nil]); first | done | (simp only [hji43]; rfl) | rfl | (simp only [List.length_drop, List.length_take]; rfl)) ?_; (with_reducible refine (cotterref01_Number.calls kj23 (a0.extract ((ji43) : Int).toNat ((wrap64 (a1 + t192)) : Int).toNat) t197 t198 _ A47.out).mono ?_); rintro e w' ⟨rfl, ⟨nd, rfl⟩⟩; refine ⟨_, rfl, ?_⟩; (try (rw [drewN_self wc]; generalize hq_ : World.drewN wc _ = wc; have n0_ : Aside0 (wc.heap[gb190]? = some (.cells #[.int .i64 0, .int .i64 0, .int .i64 0, .int .i64 0] 23 (0, 0))) := ⟨by rw [← hq_]; exact (by (with_reducible repeat (first | refine blk_drewN ?_ _ | refine blk_drew ?_ | refine blk_alloc ?_ _)); exact BK190.out)⟩; have n1_ : Aside0 (wc.heap[gb191]? = some (.cells #[.int .i64 (wrap64 (bt a0 a1)), .int .i64 x192001_23, .int .i64 x192002_23, .int .i64 0] 23 (0, 0))) := ⟨by rw [← hq_]; exact (by (with_reducible repeat (first | refine blk_drewN ?_ _ | refine blk_drew ?_ | refine blk_alloc ?_ _)); exact BK191.out)⟩; have n2_ : Aside0 (Below w.heap.size w wc) := ⟨by rw [← hq_]; exact (by repeat (first | (with_reducible first | exact HB.out | apply below_alloc | apply pw_below_drewN | apply below_drew1 | refine below_set ?_ GE190.out | refine below_set ?_ GE191.out) | exact HB.out))⟩; clear BK190 BK191 HB hq_; have BK190 := n0_; have BK191 := n1_; have HB := n2_; clear n0_ n1_ n2_; have hcq190_0 : wc.cell? ⟨gb190, 0, none⟩ = some (.int .i64 0) := (blk_cell BK190.out 0).trans rfl; have hfq190_0 := blk_frozen BK190.out 0; have hcq190_1 : wc.cell? ⟨gb190, 1, none⟩ = some (.int .i64 0) := (blk_cell BK190.out 1).trans rfl; have hfq190_1 := blk_frozen BK190.out 1; have hcq190_2 : wc.cell? ⟨gb190, 2, none⟩ = some (.int .i64 0) := (blk_cell BK190.out 2).trans rfl; have hfq190_2 := blk_frozen BK190.out 2; have hcq190_3 : wc.cell? ⟨gb190, 3, none⟩ = some (.int .i64 0) := (blk_cell BK190.out 3).trans rfl; have hfq190_3 := blk_frozen BK190.out 3; have hcq191_0 : wc.cell? ⟨gb191, 0, none⟩ = some (.int .i64 (wrap64 (bt a0 a1))) := (blk_cell BK191.out 0).trans rfl; have hfq191_0 := blk_frozen BK191.out 0; have hcq191_1 : wc.cell? ⟨gb191, 1, none⟩ = some (.int .i64 x192001_23) := (blk_cell BK191.out 1).trans rfl; have hfq191_1 := blk_frozen BK191.out 1; have hcq191_2 : wc.cell? ⟨gb191, 2, none⟩ = some (.int .i64 x192002_23) := (blk_cell BK191.out 2).trans rfl; have hfq191_2 := blk_frozen BK191.out 2; have hcq191_3 : wc.cell? ⟨gb191, 3, none⟩ = some (.int .i64 0) := (blk_cell BK191.out 3).trans rfl; have hfq191_3 := blk_frozen BK191.out 3)); have hnb50 := NB191_190.out; have hnc50 := NB190_191.out; have hcz51_0 : wc.cell? ⟨gb191, 0, none⟩ = some (.int .i64 (wrap64 (bt a0 a1))) := (blk_cell BK191.out 0).trans rfl; have hcz51_1 : wc.cell? ⟨gb191, 1, none⟩ = some (.int .i64 x192001_23) := (blk_cell BK191.out 1).trans rfl; have hcz51_2 : wc.cell? ⟨gb191, 2, none⟩ = some (.int .i64 x192002_23) := (blk_cell BK191.out 2).trans rfl; have hcz51_3 : wc.cell? ⟨gb191, 3, none⟩ = some (.int .i64 0) := (blk_cell BK191.out 3).trans rfl; have hfz51_0 := blk_frozen BK191.out 0; have hfz51_1 := blk_frozen BK191.out 1; have hfz51_2 := blk_frozen BK191.out 2; have hfz51_3 := blk_frozen BK191.out 3) | ((with_reducible refine gate_callee (f := 10) rfl ?_); refine goesL_ (some 96) rfl rfl Tryd.func10 (by kernel_rfl) rfl #[.agg #[.int .i64 (wrap64 (bt a0 a1)), .int .i64 x192001_23, .int .i64 x192002_23, .int .i64 t197]] rfl (by (try simp only [List.map_toArray, List.map_cons, List.map_nil]); first | done | rfl | (simp only [List.length_drop, List.length_take]; rfl)) ?_; (with_reducible refine (cotterref03_Encode.calls kj23 (wrap64 (bt a0 a1)) x192001_23 x192002_23 t197 t199 t200 _ A48.out).mono ?_); rintro e w52 ⟨rfl, hb⟩; refine ⟨_, rfl, ?_⟩; have n0_ := Aside0.mk (blk_below (g := gb190) (o := .cells #[.int .i64 0, .int .i64 0, .int .i64 0, .int .i64 0] 23 (0, 0)) (by (with_reducible repeat (first | refine blk_drewN ?_ _ | refine blk_drew ?_ | refine blk_alloc ?_ _)); refine blk_far ?_ NB190_191.out _; (with_reducible repeat (first | refine blk_drewN ?_ _ | refine blk_drew ?_ | refine blk_alloc ?_ _)); exact BK190.out) hb); have n1_ := Aside0.mk (blk_below (g := gb191) (o := .cells #[.int .i64 (wrap64 (bt a0 a1)), .int .i64 x192001_23, .int .i64 x192002_23, .int .i64 t197] 23 (0, 0)) (by (with_reducible repeat (first | refine blk_drewN ?_ _ | refine blk_drew ?_ | refine blk_alloc ?_ _)); refine blk_put (cs := #[.int .i64 (wrap64 (bt a0 a1)), .int .i64 x192001_23, .int .i64 x192002_23, .int .i64 0]) ?_ 3 _ rfl; (with_reducible repeat (first | refine blk_drewN ?_ _ | refine blk_drew ?_ | refine blk_alloc ?_ _)); exact BK191.out) hb); have n2_ := Aside0.mk (below_step (by repeat (first | (with_reducible first | exact HB.out | apply below_alloc | apply pw_below_drewN | apply below_drew1 | refine below_set ?_ GE190.out | refine below_set ?_ GE191.out) | exact HB.out)) hb); clear BK190; clear BK191; clear HB; have BK190 := n0_; have BK191 := n1_; have HB := n2_; clear n0_ n1_ n2_; (try clear hb); (try clear hb2); (try clear hk); (try clear hi); have hcz53_0 : w52.cell? ⟨gb191, 0, none⟩ = some (.int .i64 (wrap64 (bt a0 a1))) := (blk_cell BK191.out 0).trans rfl; have hcz53_1 : w52.cell? ⟨gb191, 1, none⟩ = some (.int .i64 x192001_23) := (blk_cell BK191.out 1).trans rfl; have hcz53_2 : w52.cell? ⟨gb191, 2, none⟩ = some (.int .i64 x192002_23) := (blk_cell BK191.out 2).trans rfl; have hcz53_3 : w52.cell? ⟨gb191, 3, none⟩ = some (.int .i64 t197) := (blk_cell BK191.out 3).trans rfl; have hfz53_0 := blk_frozen BK191.out 0; have hfz53_1 := blk_frozen BK191.out 1; have hfz53_2 := blk_frozen BK191.out 2; have hfz53_3 := blk_frozen BK191.out 3; have hcz54_0 : w52.cell? ⟨gb190, 0, none⟩ = some (.int .i64 0) := (blk_cell BK190.out 0).trans rfl; have hcz54_1 : w52.cell? ⟨gb190, 1, none⟩ = some (.int .i64 0) := (blk_cell BK190.out 1).trans rfl; have hcz54_2 : w52.cell? ⟨gb190, 2, none⟩ = some (.int .i64 0) := (blk_cell BK190.out 2).trans rfl; have hcz54_3 : w52.cell? ⟨gb190, 3, none⟩ = some (.int .i64 0) := (blk_cell BK190.out 3).trans rfl; have hfz54_0 := blk_frozen BK190.out 0; have hfz54_1 := blk_frozen BK190.out 1; have hfz54_2 := blk_frozen BK190.out 2; have hfz54_3 := blk_frozen BK190.out 3))
                                  refine bodyPost_ret (results_ctt rfl _ _ gb190 23 #[.int .i64 (wrap64 (bt a0 a1)), .int .i64 x192001_23, .int .i64 x192002_23, .int .i64 t197] (0, 0) _ rfl (by (with_reducible repeat (first | refine blk_drewN ?_ _ | refine blk_drew ?_ | refine blk_alloc ?_ _)); refine blk_put (cs := #[.int .i64 (wrap64 (bt a0 a1)), .int .i64 x192001_23, .int .i64 x192002_23, .int .i64 0]) ?_ 3 _ rfl; (with_reducible repeat (first | refine blk_drewN ?_ _ | refine blk_drew ?_ | refine blk_alloc ?_ _)); refine blk_put (cs := #[.int .i64 (wrap64 (bt a0 a1)), .int .i64 x192001_23, .int .i64 0, .int .i64 0]) ?_ 2 _ rfl; (with_reducible repeat (first | refine blk_drewN ?_ _ | refine blk_drew ?_ | refine blk_alloc ?_ _)); refine blk_put (cs := #[.int .i64 (wrap64 (bt a0 a1)), .int .i64 0, .int .i64 0, .int .i64 0]) ?_ 1 _ rfl; (with_reducible repeat (first | refine blk_drewN ?_ _ | refine blk_drew ?_ | refine blk_alloc ?_ _)); refine blk_put (cs := #[.int .i64 0, .int .i64 0, .int .i64 0, .int .i64 0]) ?_ 0 _ rfl; (with_reducible repeat (first | refine blk_drewN ?_ _ | refine blk_drew ?_ | refine blk_alloc ?_ _)); exact BK190.out) Tryd.underlying23 rfl (by kernel_rfl)) rfl ?_
                                  exact ⟨by first | rfl | (simp [errW_none, errW_some] <;> rfl) | (simp only [← hji43]; first | rfl | (simp [errW_none, errW_some] <;> rfl)) | (simp [*, errW_none, errW_some] <;> rfl), by repeat (first | (with_reducible first | exact HB.out | apply below_alloc | apply pw_below_drewN | apply below_drew1 | refine below_set ?_ GE190.out | refine below_set ?_ GE191.out) | exact HB.out)⟩
                                · rw [if_neg c49] at H
                                  have c49b0 : (t200 == 0) = false := beq_eq_false_iff_ne.mpr c49
                                  have c49b1 : (t200 != 0) = true := bne_iff_ne.mpr c49
                                  simp only [Option.some.injEq, Prod.mk.injEq] at H
                                  obtain ⟨rfl, rfl, rfl, rfl, rfl, rfl⟩ := H
                                  go_wp2_with (first | ((with_reducible refine gate_callee (f := 29) rfl ?_); refine goesL_ (some 90) rfl rfl Tryd.func29 (by kernel_rfl) rfl #[.string (a0.extract ((ji43) : Int).toNat ((wrap64 (a1 + t192)) : Int).toNat)] rfl (by (try simp only [List.map_toArray, List.map_cons, List.map_nil]); first | done | (simp only [hji43]; rfl) | rfl | (simp only [List.length_drop, List.length_take]; rfl)) ?_; (with_reducible refine (cotterref01_Number.calls kj23 (a0.extract ((ji43) : Int).toNat ((wrap64 (a1 + t192)) : Int).toNat) t197 t198 _ A47.out).mono ?_); rintro e w' ⟨rfl, ⟨nd, rfl⟩⟩; refine ⟨_, rfl, ?_⟩; (try (rw [drewN_self wc]; generalize hq_ : World.drewN wc _ = wc; have n0_ : Aside0 (wc.heap[gb190]? = some (.cells #[.int .i64 0, .int .i64 0, .int .i64 0, .int .i64 0] 23 (0, 0))) := ⟨by rw [← hq_]; exact (by (with_reducible repeat (first | refine blk_drewN ?_ _ | refine blk_drew ?_ | refine blk_alloc ?_ _)); exact BK190.out)⟩; have n1_ : Aside0 (wc.heap[gb191]? = some (.cells #[.int .i64 (wrap64 (bt a0 a1)), .int .i64 x192001_23, .int .i64 x192002_23, .int .i64 0] 23 (0, 0))) := ⟨by rw [← hq_]; exact (by (with_reducible repeat (first | refine blk_drewN ?_ _ | refine blk_drew ?_ | refine blk_alloc ?_ _)); exact BK191.out)⟩; have n2_ : Aside0 (Below w.heap.size w wc) := ⟨by rw [← hq_]; exact (by repeat (first | (with_reducible first | exact HB.out | apply below_alloc | apply pw_below_drewN | apply below_drew1 | refine below_set ?_ GE190.out | refine below_set ?_ GE191.out) | exact HB.out))⟩; clear BK190 BK191 HB hq_; have BK190 := n0_; have BK191 := n1_; have HB := n2_; clear n0_ n1_ n2_; have hcq190_0 : wc.cell? ⟨gb190, 0, none⟩ = some (.int .i64 0) := (blk_cell BK190.out 0).trans rfl; have hfq190_0 := blk_frozen BK190.out 0; have hcq190_1 : wc.cell? ⟨gb190, 1, none⟩ = some (.int .i64 0) := (blk_cell BK190.out 1).trans rfl; have hfq190_1 := blk_frozen BK190.out 1; have hcq190_2 : wc.cell? ⟨gb190, 2, none⟩ = some (.int .i64 0) := (blk_cell BK190.out 2).trans rfl; have hfq190_2 := blk_frozen BK190.out 2; have hcq190_3 : wc.cell? ⟨gb190, 3, none⟩ = some (.int .i64 0) := (blk_cell BK190.out 3).trans rfl; have hfq190_3 := blk_frozen BK190.out 3; have hcq191_0 : wc.cell? ⟨gb191, 0, none⟩ = some (.int .i64 (wrap64 (bt a0 a1))) := (blk_cell BK191.out 0).trans rfl; have hfq191_0 := blk_frozen BK191.out 0; have hcq191_1 : wc.cell? ⟨gb191, 1, none⟩ = some (.int .i64 x192001_23) := (blk_cell BK191.out 1).trans rfl; have hfq191_1 := blk_frozen BK191.out 1; have hcq191_2 : wc.cell? ⟨gb191, 2, none⟩ = some (.int .i64 x192002_23) := (blk_cell BK191.out 2).trans rfl; have hfq191_2 := blk_frozen BK191.out 2; have hcq191_3 : wc.cell? ⟨gb191, 3, none⟩ = some (.int .i64 0) := (blk_cell BK191.out 3).trans rfl; have hfq191_3 := blk_frozen BK191.out 3)); have hnb55 := NB191_190.out; have hnc55 := NB190_191.out; have hcz56_0 : wc.cell? ⟨gb191, 0, none⟩ = some (.int .i64 (wrap64 (bt a0 a1))) := (blk_cell BK191.out 0).trans rfl; have hcz56_1 : wc.cell? ⟨gb191, 1, none⟩ = some (.int .i64 x192001_23) := (blk_cell BK191.out 1).trans rfl; have hcz56_2 : wc.cell? ⟨gb191, 2, none⟩ = some (.int .i64 x192002_23) := (blk_cell BK191.out 2).trans rfl; have hcz56_3 : wc.cell? ⟨gb191, 3, none⟩ = some (.int .i64 0) := (blk_cell BK191.out 3).trans rfl; have hfz56_0 := blk_frozen BK191.out 0; have hfz56_1 := blk_frozen BK191.out 1; have hfz56_2 := blk_frozen BK191.out 2; have hfz56_3 := blk_frozen BK191.out 3) | ((with_reducible refine gate_callee (f := 10) rfl ?_); refine goesL_ (some 96) rfl rfl Tryd.func10 (by kernel_rfl) rfl #[.agg #[.int .i64 (wrap64 (bt a0 a1)), .int .i64 x192001_23, .int .i64 x192002_23, .int .i64 t197]] rfl (by (try simp only [List.map_toArray, List.map_cons, List.map_nil]); first | done | rfl | (simp only [List.length_drop, List.length_take]; rfl)) ?_; (with_reducible refine (cotterref03_Encode.calls kj23 (wrap64 (bt a0 a1)) x192001_23 x192002_23 t197 t199 t200 _ A48.out).mono ?_); rintro e w57 ⟨rfl, hb⟩; refine ⟨_, rfl, ?_⟩; have n0_ := Aside0.mk (blk_below (g := gb190) (o := .cells #[.int .i64 0, .int .i64 0, .int .i64 0, .int .i64 0] 23 (0, 0)) (by (with_reducible repeat (first | refine blk_drewN ?_ _ | refine blk_drew ?_ | refine blk_alloc ?_ _)); refine blk_far ?_ NB190_191.out _; (with_reducible repeat (first | refine blk_drewN ?_ _ | refine blk_drew ?_ | refine blk_alloc ?_ _)); exact BK190.out) hb); have n1_ := Aside0.mk (blk_below (g := gb191) (o := .cells #[.int .i64 (wrap64 (bt a0 a1)), .int .i64 x192001_23, .int .i64 x192002_23, .int .i64 t197] 23 (0, 0)) (by (with_reducible repeat (first | refine blk_drewN ?_ _ | refine blk_drew ?_ | refine blk_alloc ?_ _)); refine blk_put (cs := #[.int .i64 (wrap64 (bt a0 a1)), .int .i64 x192001_23, .int .i64 x192002_23, .int .i64 0]) ?_ 3 _ rfl; (with_reducible repeat (first | refine blk_drewN ?_ _ | refine blk_drew ?_ | refine blk_alloc ?_ _)); exact BK191.out) hb); have n2_ := Aside0.mk (below_step (by repeat (first | (with_reducible first | exact HB.out | apply below_alloc | apply pw_below_drewN | apply below_drew1 | refine below_set ?_ GE190.out | refine below_set ?_ GE191.out) | exact HB.out)) hb); clear BK190; clear BK191; clear HB; have BK190 := n0_; have BK191 := n1_; have HB := n2_; clear n0_ n1_ n2_; (try clear hb); (try clear hb2); (try clear hk); (try clear hi); have hcz58_0 : w57.cell? ⟨gb190, 0, none⟩ = some (.int .i64 0) := (blk_cell BK190.out 0).trans rfl; have hcz58_1 : w57.cell? ⟨gb190, 1, none⟩ = some (.int .i64 0) := (blk_cell BK190.out 1).trans rfl; have hcz58_2 : w57.cell? ⟨gb190, 2, none⟩ = some (.int .i64 0) := (blk_cell BK190.out 2).trans rfl; have hcz58_3 : w57.cell? ⟨gb190, 3, none⟩ = some (.int .i64 0) := (blk_cell BK190.out 3).trans rfl; have hfz58_0 := blk_frozen BK190.out 0; have hfz58_1 := blk_frozen BK190.out 1; have hfz58_2 := blk_frozen BK190.out 2; have hfz58_3 := blk_frozen BK190.out 3))
                                  refine bodyPost_ret (results_ctt rfl _ _ gb190 23 #[.int .i64 0, .int .i64 0, .int .i64 0, .int .i64 0] (0, 0) _ rfl (by (with_reducible repeat (first | refine blk_drewN ?_ _ | refine blk_drew ?_ | refine blk_alloc ?_ _)); refine blk_put (cs := #[.int .i64 0, .int .i64 0, .int .i64 0, .int .i64 0]) ?_ 3 _ rfl; (with_reducible repeat (first | refine blk_drewN ?_ _ | refine blk_drew ?_ | refine blk_alloc ?_ _)); refine blk_put (cs := #[.int .i64 0, .int .i64 0, .int .i64 0, .int .i64 0]) ?_ 2 _ rfl; (with_reducible repeat (first | refine blk_drewN ?_ _ | refine blk_drew ?_ | refine blk_alloc ?_ _)); refine blk_put (cs := #[.int .i64 0, .int .i64 0, .int .i64 0, .int .i64 0]) ?_ 1 _ rfl; (with_reducible repeat (first | refine blk_drewN ?_ _ | refine blk_drew ?_ | refine blk_alloc ?_ _)); refine blk_put (cs := #[.int .i64 0, .int .i64 0, .int .i64 0, .int .i64 0]) ?_ 0 _ rfl; (with_reducible repeat (first | refine blk_drewN ?_ _ | refine blk_drew ?_ | refine blk_alloc ?_ _)); exact BK190.out) Tryd.underlying23 rfl (by kernel_rfl)) rfl ?_
                                  exact ⟨by first | rfl | (simp [errW_none, errW_some] <;> rfl) | (simp only [← hji43]; first | rfl | (simp [errW_none, errW_some] <;> rfl)) | (simp [*, errW_none, errW_some] <;> rfl), by repeat (first | (with_reducible first | exact HB.out | apply below_alloc | apply pw_below_drewN | apply below_drew1 | refine below_set ?_ GE190.out | refine below_set ?_ GE191.out) | exact HB.out)⟩
                              · rw [if_neg c46] at H
                                exact absurd H (by simp)
                            · rw [if_neg c45] at H
                              exact absurd H (by simp)
                          · rw [if_neg c44] at H
                            exact absurd H (by simp)
                        · rw [if_neg c42] at H
                          have c42b0 : decide (0 < t196) = false := decide_eq_false c42
                          clear c42
                          replace H := Option.bind_eq_some_iff.mp H
                          obtain ⟨⟨t201, t202⟩, A590, H⟩ := H
                          replace H : (if t202 = 0 then (some ((wrap64 (bt a0 a1)), x192001_23, x192002_23, 0, wrap64 (a1 + t192), 0)) else (some (0, 0, 0, 0, 0, 9))) = some (r1, r2, r3, r4, r5, r6) := H
                          have A59 := Aside0.mk A590
                          clear A590
                          by_cases c60 : t202 = 0
                          · rw [if_pos c60] at H
                            have c60b0 : (t202 == 0) = true := beq_iff_eq.mpr c60
                            have c60b1 : (t202 != 0) = false := bne_eq_false_iff_eq.mpr c60
                            clear c60
                            simp only [Option.some.injEq, Prod.mk.injEq] at H
                            obtain ⟨rfl, rfl, rfl, rfl, rfl, rfl⟩ := H
                            have hnb61 := NB191_190.out
                            have hnc61 := NB190_191.out
                            have hcz62_0 : wc.cell? ⟨gb191, 0, none⟩ = some (.int .i64 (wrap64 (bt a0 a1))) := (blk_cell BK191.out 0).trans rfl
                            have hcz62_1 : wc.cell? ⟨gb191, 1, none⟩ = some (.int .i64 x192001_23) := (blk_cell BK191.out 1).trans rfl
                            have hcz62_2 : wc.cell? ⟨gb191, 2, none⟩ = some (.int .i64 x192002_23) := (blk_cell BK191.out 2).trans rfl
                            have hcz62_3 : wc.cell? ⟨gb191, 3, none⟩ = some (.int .i64 0) := (blk_cell BK191.out 3).trans rfl
                            have hfz62_0 := blk_frozen BK191.out 0
                            have hfz62_1 := blk_frozen BK191.out 1
                            have hfz62_2 := blk_frozen BK191.out 2
                            have hfz62_3 := blk_frozen BK191.out 3
                            go_wp2_with (first | ((with_reducible refine gate_callee (f := 10) rfl ?_); refine goesL_ (some 96) rfl rfl Tryd.func10 (by kernel_rfl) rfl #[.agg #[.int .i64 (wrap64 (bt a0 a1)), .int .i64 x192001_23, .int .i64 x192002_23, .int .i64 0]] rfl (by (try simp only [List.map_toArray, List.map_cons, List.map_nil]); first | done | rfl | (simp only [List.length_drop, List.length_take]; rfl)) ?_; (with_reducible refine (cotterref03_Encode.calls kj23 (wrap64 (bt a0 a1)) x192001_23 x192002_23 0 t201 t202 _ A59.out).mono ?_); rintro e w63 ⟨rfl, hb⟩; refine ⟨_, rfl, ?_⟩; have n0_ := Aside0.mk (blk_below (g := gb190) (o := .cells #[.int .i64 0, .int .i64 0, .int .i64 0, .int .i64 0] 23 (0, 0)) (by (with_reducible repeat (first | refine blk_drewN ?_ _ | refine blk_drew ?_ | refine blk_alloc ?_ _)); exact BK190.out) hb); have n1_ := Aside0.mk (blk_below (g := gb191) (o := .cells #[.int .i64 (wrap64 (bt a0 a1)), .int .i64 x192001_23, .int .i64 x192002_23, .int .i64 0] 23 (0, 0)) (by (with_reducible repeat (first | refine blk_drewN ?_ _ | refine blk_drew ?_ | refine blk_alloc ?_ _)); exact BK191.out) hb); have n2_ := Aside0.mk (below_step (by repeat (first | (with_reducible first | exact HB.out | apply below_alloc | apply pw_below_drewN | apply below_drew1 | refine below_set ?_ GE190.out | refine below_set ?_ GE191.out) | exact HB.out)) hb); clear BK190; clear BK191; clear HB; have BK190 := n0_; have BK191 := n1_; have HB := n2_; clear n0_ n1_ n2_; (try clear hb); (try clear hb2); (try clear hk); (try clear hi); have hcz64_0 : w63.cell? ⟨gb191, 0, none⟩ = some (.int .i64 (wrap64 (bt a0 a1))) := (blk_cell BK191.out 0).trans rfl; have hcz64_1 : w63.cell? ⟨gb191, 1, none⟩ = some (.int .i64 x192001_23) := (blk_cell BK191.out 1).trans rfl; have hcz64_2 : w63.cell? ⟨gb191, 2, none⟩ = some (.int .i64 x192002_23) := (blk_cell BK191.out 2).trans rfl; have hcz64_3 : w63.cell? ⟨gb191, 3, none⟩ = some (.int .i64 0) := (blk_cell BK191.out 3).trans rfl; have hfz64_0 := blk_frozen BK191.out 0; have hfz64_1 := blk_frozen BK191.out 1; have hfz64_2 := blk_frozen BK191.out 2; have hfz64_3 := blk_frozen BK191.out 3; have hcz65_0 : w63.cell? ⟨gb190, 0, none⟩ = some (.int .i64 0) := (blk_cell BK190.out 0).trans rfl; have hcz65_1 : w63.cell? ⟨gb190, 1, none⟩ = some (.int .i64 0) := (blk_cell BK190.out 1).trans rfl; have hcz65_2 : w63.cell? ⟨gb190, 2, none⟩ = some (.int .i64 0) := (blk_cell BK190.out 2).trans rfl; have hcz65_3 : w63.cell? ⟨gb190, 3, none⟩ = some (.int .i64 0) := (blk_cell BK190.out 3).trans rfl; have hfz65_0 := blk_frozen BK190.out 0; have hfz65_1 := blk_frozen BK190.out 1; have hfz65_2 := blk_frozen BK190.out 2; have hfz65_3 := blk_frozen BK190.out 3))
                            refine bodyPost_ret (results_ctt rfl _ _ gb190 23 #[.int .i64 (wrap64 (bt a0 a1)), .int .i64 x192001_23, .int .i64 x192002_23, .int .i64 0] (0, 0) _ rfl (by (with_reducible repeat (first | refine blk_drewN ?_ _ | refine blk_drew ?_ | refine blk_alloc ?_ _)); refine blk_put (cs := #[.int .i64 (wrap64 (bt a0 a1)), .int .i64 x192001_23, .int .i64 x192002_23, .int .i64 0]) ?_ 3 _ rfl; (with_reducible repeat (first | refine blk_drewN ?_ _ | refine blk_drew ?_ | refine blk_alloc ?_ _)); refine blk_put (cs := #[.int .i64 (wrap64 (bt a0 a1)), .int .i64 x192001_23, .int .i64 0, .int .i64 0]) ?_ 2 _ rfl; (with_reducible repeat (first | refine blk_drewN ?_ _ | refine blk_drew ?_ | refine blk_alloc ?_ _)); refine blk_put (cs := #[.int .i64 (wrap64 (bt a0 a1)), .int .i64 0, .int .i64 0, .int .i64 0]) ?_ 1 _ rfl; (with_reducible repeat (first | refine blk_drewN ?_ _ | refine blk_drew ?_ | refine blk_alloc ?_ _)); refine blk_put (cs := #[.int .i64 0, .int .i64 0, .int .i64 0, .int .i64 0]) ?_ 0 _ rfl; (with_reducible repeat (first | refine blk_drewN ?_ _ | refine blk_drew ?_ | refine blk_alloc ?_ _)); exact BK190.out) Tryd.underlying23 rfl (by kernel_rfl)) rfl ?_
                            exact ⟨by first | rfl | (simp [errW_none, errW_some] <;> rfl) | (simp [*, errW_none, errW_some] <;> rfl), by repeat (first | (with_reducible first | exact HB.out | apply below_alloc | apply pw_below_drewN | apply below_drew1 | refine below_set ?_ GE190.out | refine below_set ?_ GE191.out) | exact HB.out)⟩
                          · rw [if_neg c60] at H
                            have c60b0 : (t202 == 0) = false := beq_eq_false_iff_ne.mpr c60
                            have c60b1 : (t202 != 0) = true := bne_iff_ne.mpr c60
                            simp only [Option.some.injEq, Prod.mk.injEq] at H
                            obtain ⟨rfl, rfl, rfl, rfl, rfl, rfl⟩ := H
                            have hnb66 := NB191_190.out
                            have hnc66 := NB190_191.out
                            have hcz67_0 : wc.cell? ⟨gb191, 0, none⟩ = some (.int .i64 (wrap64 (bt a0 a1))) := (blk_cell BK191.out 0).trans rfl
                            have hcz67_1 : wc.cell? ⟨gb191, 1, none⟩ = some (.int .i64 x192001_23) := (blk_cell BK191.out 1).trans rfl
                            have hcz67_2 : wc.cell? ⟨gb191, 2, none⟩ = some (.int .i64 x192002_23) := (blk_cell BK191.out 2).trans rfl
                            have hcz67_3 : wc.cell? ⟨gb191, 3, none⟩ = some (.int .i64 0) := (blk_cell BK191.out 3).trans rfl
                            have hfz67_0 := blk_frozen BK191.out 0
                            have hfz67_1 := blk_frozen BK191.out 1
                            have hfz67_2 := blk_frozen BK191.out 2
                            have hfz67_3 := blk_frozen BK191.out 3
                            go_wp2_with (first | ((with_reducible refine gate_callee (f := 10) rfl ?_); refine goesL_ (some 96) rfl rfl Tryd.func10 (by kernel_rfl) rfl #[.agg #[.int .i64 (wrap64 (bt a0 a1)), .int .i64 x192001_23, .int .i64 x192002_23, .int .i64 0]] rfl (by (try simp only [List.map_toArray, List.map_cons, List.map_nil]); first | done | rfl | (simp only [List.length_drop, List.length_take]; rfl)) ?_; (with_reducible refine (cotterref03_Encode.calls kj23 (wrap64 (bt a0 a1)) x192001_23 x192002_23 0 t201 t202 _ A59.out).mono ?_); rintro e w68 ⟨rfl, hb⟩; refine ⟨_, rfl, ?_⟩; have n0_ := Aside0.mk (blk_below (g := gb190) (o := .cells #[.int .i64 0, .int .i64 0, .int .i64 0, .int .i64 0] 23 (0, 0)) (by (with_reducible repeat (first | refine blk_drewN ?_ _ | refine blk_drew ?_ | refine blk_alloc ?_ _)); exact BK190.out) hb); have n1_ := Aside0.mk (blk_below (g := gb191) (o := .cells #[.int .i64 (wrap64 (bt a0 a1)), .int .i64 x192001_23, .int .i64 x192002_23, .int .i64 0] 23 (0, 0)) (by (with_reducible repeat (first | refine blk_drewN ?_ _ | refine blk_drew ?_ | refine blk_alloc ?_ _)); exact BK191.out) hb); have n2_ := Aside0.mk (below_step (by repeat (first | (with_reducible first | exact HB.out | apply below_alloc | apply pw_below_drewN | apply below_drew1 | refine below_set ?_ GE190.out | refine below_set ?_ GE191.out) | exact HB.out)) hb); clear BK190; clear BK191; clear HB; have BK190 := n0_; have BK191 := n1_; have HB := n2_; clear n0_ n1_ n2_; (try clear hb); (try clear hb2); (try clear hk); (try clear hi); have hcz69_0 : w68.cell? ⟨gb190, 0, none⟩ = some (.int .i64 0) := (blk_cell BK190.out 0).trans rfl; have hcz69_1 : w68.cell? ⟨gb190, 1, none⟩ = some (.int .i64 0) := (blk_cell BK190.out 1).trans rfl; have hcz69_2 : w68.cell? ⟨gb190, 2, none⟩ = some (.int .i64 0) := (blk_cell BK190.out 2).trans rfl; have hcz69_3 : w68.cell? ⟨gb190, 3, none⟩ = some (.int .i64 0) := (blk_cell BK190.out 3).trans rfl; have hfz69_0 := blk_frozen BK190.out 0; have hfz69_1 := blk_frozen BK190.out 1; have hfz69_2 := blk_frozen BK190.out 2; have hfz69_3 := blk_frozen BK190.out 3))
                            refine bodyPost_ret (results_ctt rfl _ _ gb190 23 #[.int .i64 0, .int .i64 0, .int .i64 0, .int .i64 0] (0, 0) _ rfl (by (with_reducible repeat (first | refine blk_drewN ?_ _ | refine blk_drew ?_ | refine blk_alloc ?_ _)); refine blk_put (cs := #[.int .i64 0, .int .i64 0, .int .i64 0, .int .i64 0]) ?_ 3 _ rfl; (with_reducible repeat (first | refine blk_drewN ?_ _ | refine blk_drew ?_ | refine blk_alloc ?_ _)); refine blk_put (cs := #[.int .i64 0, .int .i64 0, .int .i64 0, .int .i64 0]) ?_ 2 _ rfl; (with_reducible repeat (first | refine blk_drewN ?_ _ | refine blk_drew ?_ | refine blk_alloc ?_ _)); refine blk_put (cs := #[.int .i64 0, .int .i64 0, .int .i64 0, .int .i64 0]) ?_ 1 _ rfl; (with_reducible repeat (first | refine blk_drewN ?_ _ | refine blk_drew ?_ | refine blk_alloc ?_ _)); refine blk_put (cs := #[.int .i64 0, .int .i64 0, .int .i64 0, .int .i64 0]) ?_ 0 _ rfl; (with_reducible repeat (first | refine blk_drewN ?_ _ | refine blk_drew ?_ | refine blk_alloc ?_ _)); exact BK190.out) Tryd.underlying23 rfl (by kernel_rfl)) rfl ?_
                            exact ⟨by first | rfl | (simp [errW_none, errW_some] <;> rfl) | (simp [*, errW_none, errW_some] <;> rfl), by repeat (first | (with_reducible first | exact HB.out | apply below_alloc | apply pw_below_drewN | apply below_drew1 | refine below_set ?_ GE190.out | refine below_set ?_ GE191.out) | exact HB.out)⟩
            · rw [if_neg c11] at H
              exact absurd H (by simp)
          · rw [if_neg c10] at H
            exact absurd H (by simp)

end Go.Proofs.YthmheblilgegcaaDoor.M
