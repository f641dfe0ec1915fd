-- Written by a program of this session (wip/ownprint.py) over the translation. Lean checks it.
import Derived.Test.YthmheblilgegcaaDoorM0
import Derived.Test.YthmheblilgegcaaDoorM2
import Derived.Test.YthmheblilgegcaaDoorM5
namespace Go.Proofs.YthmheblilgegcaaDoor.M
open Go.RowKit Go.Proofs.YthmheblilgegcaaDoorW.PrintWords Go.Proofs.YthmheblilgegcaaDoorW.PrintLast
set_option linter.unusedVariables false
set_option linter.unusedSimpArgs false

/-! ### ins_Decode: function 14 -/
mutual
def ins_Decode.j0 : Nat → ByteArray → Int → Bool → Option (Int × Int × Int × Int × Int × Int)
  | 0, _, _, _ => none
  | k + 1, x0, x1, x11 => if x11 = true then (some (0, 0, 0, 0, 0, 1)) else (if x1 = (x0.size : Int) then (some (0, 0, 0, 0, 0, 9)) else (if 0 ≤ x1 then (if x1 < (x0.size : Int) then ((ins_shapeOf.f (wrap64 (bt x0 x1))).bind fun t137 => (if t137 = 0 then (ins_Decode.j1 k x0 x1 t137 true (wrap64 (bt x0 x1)) 0 0 0) else ((ins_shape_size.f k t137).bind fun t138 => (ins_Decode.j1 k x0 x1 t137 (decide ((wrap64 ((x0.size : Int) - x1)) < t138)) (wrap64 (bt x0 x1)) 0 0 0)))) else (none)) else (none)))
def ins_Decode.j1 : Nat → ByteArray → Int → Int → Bool → Int → Int → Int → Int → Option (Int × Int × Int × Int × Int × Int)
  | 0, _, _, _, _, _, _, _, _ => none
  | k + 1, x0, x1, x8, x45, x137000, x137001, x137002, x137003 => if x45 = true then (some (0, 0, 0, 0, 0, 9)) else ((ins_shape_size.f k x8).bind fun t139 => ((ins_shape_registers.f k x8).bind fun t140 => (if t140 = 1 then (if 0 ≤ (wrap64 (x1 + 1)) then (if (wrap64 (x1 + 1)) < (x0.size : Int) then (ins_Decode.j2 k x0 x8 (wrap64 (x1 + t139)) x137000 (wrap64 (bt x0 (wrap64 (x1 + 1)))) x137002 x137003) else (none)) else (none)) else (if t140 = 2 then (if 0 ≤ (wrap64 (x1 + 1)) then (if (wrap64 (x1 + 1)) < (x0.size : Int) then (ins_Decode.j2 k x0 x8 (wrap64 (x1 + t139)) x137000 (wrap64 ((bt x0 (wrap64 (x1 + 1))) / 16)) (wrap64 (Go.bits .and .u8 (bt x0 (wrap64 (x1 + 1))) 15)) x137003) else (none)) else (none)) else (ins_Decode.j2 k x0 x8 (wrap64 (x1 + t139)) x137000 x137001 x137002 x137003)))))
def ins_Decode.j2 : Nat → ByteArray → Int → Int → Int → Int → Int → Int → Option (Int × Int × Int × Int × Int × Int)
  | 0, _, _, _, _, _, _, _ => none
  | k + 1, x0, x8, x9, x137000, x137001, x137002, x137003 => (ins_shape_width.f k x8).bind fun t141 => (if t141 > 0 then (if 0 ≤ (wrap64 (x9 - t141)) then (if (wrap64 (x9 - t141)) ≤ x9 then (if x9 ≤ (x0.size : Int) then ((word_Number.f k (x0.extract ((wrap64 (x9 - t141)) : Int).toNat (x9 : Int).toNat)).bind fun bt142 => (ins_Decode.j3 k x8 x9 x137000 x137001 x137002 bt142.1)) else (none)) else (none)) else (none)) else (ins_Decode.j3 k x8 x9 x137000 x137001 x137002 x137003))
def ins_Decode.j3 : Nat → Int → Int → Int → Int → Int → Int → Option (Int × Int × Int × Int × Int × Int)
  | 0, _, _, _, _, _, _ => none
  | k + 1, x8, x9, x137000, x137001, x137002, x137003 => (ins_isRegister.f x137001).bind fun t144 => (if t144 = true then ((ins_isRegister.f x137002).bind fun t145 => (if t145 = true then (if x8 = 10 then (if x137003 < 0 then (some (0, 0, 0, 0, 0, 9)) else (some (x137000, x137001, x137002, x137003, x9, 0))) else (some (x137000, x137001, x137002, x137003, x9, 0))) else (some (0, 0, 0, 0, 0, 9)))) else (some (0, 0, 0, 0, 0, 9)))
end
def ins_Decode.f (k : Nat) (a0 : ByteArray) (a1 : Int) : Option (Int × Int × Int × Int × Int × Int) := if a1 < 0 then (ins_Decode.j0 k a0 a1 true) else (ins_Decode.j0 k a0 a1 (decide (a1 > (a0.size : Int))))
theorem ins_Decode.mono_l : ∀ k, (∀ y0 y1 y2, LeO (ins_Decode.j0 k y0 y1 y2) (ins_Decode.j0 (k + 1) y0 y1 y2)) ∧ (∀ y0 y1 y2 y3 y4 y5 y6 y7, LeO (ins_Decode.j1 k y0 y1 y2 y3 y4 y5 y6 y7) (ins_Decode.j1 (k + 1) y0 y1 y2 y3 y4 y5 y6 y7)) ∧ (∀ y0 y1 y2 y3 y4 y5 y6, LeO (ins_Decode.j2 k y0 y1 y2 y3 y4 y5 y6) (ins_Decode.j2 (k + 1) y0 y1 y2 y3 y4 y5 y6)) ∧ (∀ y0 y1 y2 y3 y4 y5, LeO (ins_Decode.j3 k y0 y1 y2 y3 y4 y5) (ins_Decode.j3 (k + 1) y0 y1 y2 y3 y4 y5))
  | 0 => ⟨fun _ _ _ r h => by simp [ins_Decode.j0] at h, fun _ _ _ _ _ _ _ _ r h => by simp [ins_Decode.j1] at h, fun _ _ _ _ _ _ _ r h => by simp [ins_Decode.j2] at h, fun _ _ _ _ _ _ r h => by simp [ins_Decode.j3] at h⟩
  | k + 1 => by
    obtain ⟨ih0, ih1, ih2, ih3⟩ := ins_Decode.mono_l k
    refine ⟨?_, ?_, ?_, ?_⟩
    · intro y0 y1 y2
      unfold ins_Decode.j0
      repeat' first
      | (with_reducible exact ih0 _ _ _)
      | (with_reducible exact ih1 _ _ _ _ _ _ _ _)
      | (with_reducible exact ih2 _ _ _ _ _ _ _)
      | (with_reducible exact ih3 _ _ _ _ _ _)
      | (with_reducible exact ins_shape_registers.mono _ _)
      | (with_reducible exact ins_shape_size.mono _ _)
      | (with_reducible exact ins_shape_width.mono _ _)
      | (with_reducible exact word_Number.mono _ _)
      | (with_reducible exact LeO.refl _)
      | (with_reducible exact LeO.none _)
      | (with_reducible refine LeO.ite ?_ ?_)
      | (with_reducible refine LeO.bind ?_ (fun _ => ?_))
      | exact ih0 _ _ _
      | exact ih1 _ _ _ _ _ _ _ _
      | exact ih2 _ _ _ _ _ _ _
      | exact ih3 _ _ _ _ _ _
      | exact ins_shape_registers.mono _ _
      | exact ins_shape_size.mono _ _
      | exact ins_shape_width.mono _ _
      | exact word_Number.mono _ _
      | exact LeO.none _
      | refine LeO.ite ?_ ?_
      | refine LeO.bind ?_ (fun _ => ?_)
    · intro y0 y1 y2 y3 y4 y5 y6 y7
      unfold ins_Decode.j1
      repeat' first
      | (with_reducible exact ih0 _ _ _)
      | (with_reducible exact ih1 _ _ _ _ _ _ _ _)
      | (with_reducible exact ih2 _ _ _ _ _ _ _)
      | (with_reducible exact ih3 _ _ _ _ _ _)
      | (with_reducible exact ins_shape_registers.mono _ _)
      | (with_reducible exact ins_shape_size.mono _ _)
      | (with_reducible exact ins_shape_width.mono _ _)
      | (with_reducible exact word_Number.mono _ _)
      | (with_reducible exact LeO.refl _)
      | (with_reducible exact LeO.none _)
      | (with_reducible refine LeO.ite ?_ ?_)
      | (with_reducible refine LeO.bind ?_ (fun _ => ?_))
      | exact ih0 _ _ _
      | exact ih1 _ _ _ _ _ _ _ _
      | exact ih2 _ _ _ _ _ _ _
      | exact ih3 _ _ _ _ _ _
      | exact ins_shape_registers.mono _ _
      | exact ins_shape_size.mono _ _
      | exact ins_shape_width.mono _ _
      | exact word_Number.mono _ _
      | exact LeO.none _
      | refine LeO.ite ?_ ?_
      | refine LeO.bind ?_ (fun _ => ?_)
    · intro y0 y1 y2 y3 y4 y5 y6
      unfold ins_Decode.j2
      repeat' first
      | (with_reducible exact ih0 _ _ _)
      | (with_reducible exact ih1 _ _ _ _ _ _ _ _)
      | (with_reducible exact ih2 _ _ _ _ _ _ _)
      | (with_reducible exact ih3 _ _ _ _ _ _)
      | (with_reducible exact ins_shape_registers.mono _ _)
      | (with_reducible exact ins_shape_size.mono _ _)
      | (with_reducible exact ins_shape_width.mono _ _)
      | (with_reducible exact word_Number.mono _ _)
      | (with_reducible exact LeO.refl _)
      | (with_reducible exact LeO.none _)
      | (with_reducible refine LeO.ite ?_ ?_)
      | (with_reducible refine LeO.bind ?_ (fun _ => ?_))
      | exact ih0 _ _ _
      | exact ih1 _ _ _ _ _ _ _ _
      | exact ih2 _ _ _ _ _ _ _
      | exact ih3 _ _ _ _ _ _
      | exact ins_shape_registers.mono _ _
      | exact ins_shape_size.mono _ _
      | exact ins_shape_width.mono _ _
      | exact word_Number.mono _ _
      | exact LeO.none _
      | refine LeO.ite ?_ ?_
      | refine LeO.bind ?_ (fun _ => ?_)
    · intro y0 y1 y2 y3 y4 y5
      unfold ins_Decode.j3
      repeat' first
      | (with_reducible exact ih0 _ _ _)
      | (with_reducible exact ih1 _ _ _ _ _ _ _ _)
      | (with_reducible exact ih2 _ _ _ _ _ _ _)
      | (with_reducible exact ih3 _ _ _ _ _ _)
      | (with_reducible exact ins_shape_registers.mono _ _)
      | (with_reducible exact ins_shape_size.mono _ _)
      | (with_reducible exact ins_shape_width.mono _ _)
      | (with_reducible exact word_Number.mono _ _)
      | (with_reducible exact LeO.refl _)
      | (with_reducible exact LeO.none _)
      | (with_reducible refine LeO.ite ?_ ?_)
      | (with_reducible refine LeO.bind ?_ (fun _ => ?_))
      | exact ih0 _ _ _
      | exact ih1 _ _ _ _ _ _ _ _
      | exact ih2 _ _ _ _ _ _ _
      | exact ih3 _ _ _ _ _ _
      | exact ins_shape_registers.mono _ _
      | exact ins_shape_size.mono _ _
      | exact ins_shape_width.mono _ _
      | exact word_Number.mono _ _
      | exact LeO.none _
      | refine LeO.ite ?_ ?_
      | refine LeO.bind ?_ (fun _ => ?_)
theorem ins_Decode.mono : ∀ a0 a1 k, LeO (ins_Decode.f k a0 a1) (ins_Decode.f (k + 1) a0 a1) := by
  intro a0 a1 k
  obtain ⟨ih0, ih1, ih2, ih3⟩ := ins_Decode.mono_l k
  unfold ins_Decode.f
  repeat' first
      | (with_reducible exact ih0 _ _ _)
      | (with_reducible exact ih1 _ _ _ _ _ _ _ _)
      | (with_reducible exact ih2 _ _ _ _ _ _ _)
      | (with_reducible exact ih3 _ _ _ _ _ _)
      | (with_reducible exact ins_shape_registers.mono _ _)
      | (with_reducible exact ins_shape_size.mono _ _)
      | (with_reducible exact ins_shape_width.mono _ _)
      | (with_reducible exact word_Number.mono _ _)
      | (with_reducible exact LeO.refl _)
      | (with_reducible exact LeO.none _)
      | (with_reducible refine LeO.ite ?_ ?_)
      | (with_reducible refine LeO.bind ?_ (fun _ => ?_))
      | exact ih0 _ _ _
      | exact ih1 _ _ _ _ _ _ _ _
      | exact ih2 _ _ _ _ _ _ _
      | exact ih3 _ _ _ _ _ _
      | exact ins_shape_registers.mono _ _
      | exact ins_shape_size.mono _ _
      | exact ins_shape_width.mono _ _
      | exact word_Number.mono _ _
      | exact LeO.none _
      | refine LeO.ite ?_ ?_
      | refine LeO.bind ?_ (fun _ => ?_)
def ins_Decode.T14 : Bool × List (List Nat × List Nat) := (true, [([], []), ([], []), ([1], [1]), ([0, 2], [0, 2]), ([3], [3]), ([4], [4]), ([], []), ([], []), ([7], [7]), ([6, 8], [6, 8]), ([9], [9]), ([10], [10]), ([0, 1, 2, 3, 4, 5], []), ([12, 5, 0, 1, 2, 3, 4, 5], [5, 12]), ([0, 1, 2, 3, 4, 5, 6, 7, 8, 9, 10, 11, 12, 13], []), ([14, 11, 13, 0, 1, 2, 3, 4, 5, 6, 7, 8, 9, 10, 11, 12, 13], [11, 14])])
def ins_Decode.B14 : List Nat := [0, 0, 2, 7, 15, 31, 0, 0, 128, 448, 960, 1984, 63, 4159, 16383, 32767]
theorem ins_Decode.tab14 : rtab .any (opsOf Tryd.f14 14) = ins_Decode.T14 := by kernel_rfl
theorem ins_Decode.bits14 : waitsOk ins_Decode.T14.2 ins_Decode.B14 = true := by kernel_rfl
set_option maxHeartbeats 8000000 in
set_option maxRecDepth 100000 in
theorem ins_Decode.calls (k : Nat) (a0 : ByteArray) (a1 : Int) (r1 : Int) (r2 : Int) (r3 : Int) (r4 : Int) (r5 : Int) (r6 : Int) (w : World) (hG : Glob w) (h : ins_Decode.f k a0 a1 = some (r1, r2, r3, r4, r5, r6)) :
    Calls Tryd.prog 14 #[.string a0, .int .i64 a1] w fun e w' => e = .returned (.tuple #[.agg #[.int .i64 r1, .int .i64 r2, .int .i64 r3, .int .i64 r4], .int .i64 r5, .int .i64 r6]) ∧ Below w.heap.size w w' := by
  have HG := Aside0.mk hG
  clear hG
  have hu23 := Tryd.underlying23
  have HB := Aside0.mk (Below.refl w.heap.size w)
  have H : (if a1 < 0 then (ins_Decode.j0 k a0 a1 true) else (ins_Decode.j0 k a0 a1 (decide (a1 > (a0.size : Int))))) = some (r1, r2, r3, r4, r5, r6) := h
  clear h
  have HC3 := Aside0.mk H
  clear H
  go_enter Tryd.func14, Tryd.ntmps14
  go_upto_region 1 with (first | ((with_reducible refine gate_dst (N := 4) rfl ?_); (try (refine gate_guard (by rfl) ?_; dsimp only)); refine box_event ?hg (N := 4) ?hd (cs := #[.int .i64 0, .int .i64 0, .int .i64 0, .int .i64 0]) (t := 23) ?hr ?_; (case hd => rfl); (case hg => rfl); (case hr => first | (go_simp; done) | (go_simp; rfl)); intro gb135 hg w4 hbox hb; have n0_ := Aside0.mk (below_step (by repeat (first | (with_reducible first | exact HB.out | apply below_alloc | apply pw_below_drewN | apply below_drew1) | exact HB.out)) hb); have n1_ := Aside0.mk (hbox); have n2_ := Aside0.mk ((by rw [hg]; exact (below_size (by repeat (first | (with_reducible first | exact HB.out | apply below_alloc | apply pw_below_drewN | apply below_drew1) | exact HB.out))) : w.heap.size ≤ gb135)); have n3_ := Aside0.mk ((by rw [hg]; exact (below_size (by repeat (first | (with_reducible first | exact HB.out | apply below_alloc | apply pw_below_drewN | apply below_drew1) | exact HB.out))) : w.heap.size ≤ gb135)); clear HB; have HB := n0_; have BK135 := n1_; have GW135 := n2_; have GE135 := n3_; clear n0_ n1_ n2_ n3_; clear hb hbox hg))
  (try simp only [Act.put, List.setIfInBounds_toArray, List.set_cons_zero, List.set_cons_succ])
  go_cut [11] (fun v11 wc => ∃ (kq : Nat) (x11_2 : Bool), v11 = .bool x11_2 ∧ Aside0 (ins_Decode.j0 kq a0 a1 x11_2 = some (r1, r2, r3, r4, r5, r6)) ∧ Aside0 (kq ≤ k) ∧ Aside0 (wc.heap[gb135]? = some (.cells #[.int .i64 0, .int .i64 0, .int .i64 0, .int .i64 0] 23 (0, 0))) ∧ Aside0 (Below w.heap.size w wc))
  case first =>
    have H := HC3.out
    clear HC3
    by_cases c5 : a1 < 0
    · rw [if_pos c5] at H
      have c5b0 : decide (a1 < 0) = true := decide_eq_true c5
      clear c5
      (first | rw [c5b0] | (simp only [i64_w, i32_w]; rw [c5b0]) | skip)
      have H' := Aside0.mk H
      clear H
      go_wp2
      go_meet
      case rel => exact ⟨_, (true), (by first | rfl | (simp; done) | (simp [*]; done)), H', ⟨by first | omega | exact Nat.le_refl _⟩, ⟨by (with_reducible repeat (first | refine blk_drewN ?_ _ | refine blk_drew ?_ | refine blk_alloc ?_ _)); exact BK135.out⟩, ⟨by repeat (first | (with_reducible first | exact HB.out | apply below_alloc | apply pw_below_drewN | apply below_drew1 | refine below_set ?_ GE135.out) | exact HB.out)⟩⟩
    · rw [if_neg c5] at H
      have c5b0 : decide (a1 < 0) = false := decide_eq_false c5
      clear c5
      (first | rw [c5b0] | (simp only [i64_w, i32_w]; rw [c5b0]) | skip)
      have H' := Aside0.mk H
      clear H
      go_wp2
      go_meet
      case rel => exact ⟨_, (decide (a1 > (a0.size : Int))), (by first | rfl | (simp; done) | (simp [*]; done)), H', ⟨by first | omega | exact Nat.le_refl _⟩, ⟨by (with_reducible repeat (first | refine blk_drewN ?_ _ | refine blk_drew ?_ | refine blk_alloc ?_ _)); exact BK135.out⟩, ⟨by repeat (first | (with_reducible first | exact HB.out | apply below_alloc | apply pw_below_drewN | apply below_drew1 | refine below_set ?_ GE135.out) | exact HB.out)⟩⟩
  case rest =>
    clear HC3
    try clear c1
    try clear p2
    try clear c5
    try clear c5b0
    obtain ⟨kq, x11_2, rfl, HA, HJ2, BK135, HB⟩ := hcut
    cases kq with
    | zero => exact absurd HA.out (by simp [ins_Decode.j0])
    | succ kj2 =>
      have H := HA.out
      clear HA
      simp only [ins_Decode.j0] at H
      by_cases c6 : x11_2 = true
      · subst c6
        have H1 : (some (0, 0, 0, 0, 0, 1)) = some (r1, r2, r3, r4, r5, r6) := by rw [if_pos rfl] at H; exact H
        clear H
        have H := H1
        clear H1
        simp only [Option.some.injEq, Prod.mk.injEq] at H
        obtain ⟨rfl, rfl, rfl, rfl, rfl, rfl⟩ := H
        have hcz7_0 : wc.cell? ⟨gb135, 0, none⟩ = some (.int .i64 0) := (blk_cell BK135.out 0).trans rfl
        have hcz7_1 : wc.cell? ⟨gb135, 1, none⟩ = some (.int .i64 0) := (blk_cell BK135.out 1).trans rfl
        have hcz7_2 : wc.cell? ⟨gb135, 2, none⟩ = some (.int .i64 0) := (blk_cell BK135.out 2).trans rfl
        have hcz7_3 : wc.cell? ⟨gb135, 3, none⟩ = some (.int .i64 0) := (blk_cell BK135.out 3).trans rfl
        have hfz7_0 := blk_frozen BK135.out 0
        have hfz7_1 := blk_frozen BK135.out 1
        have hfz7_2 := blk_frozen BK135.out 2
        have hfz7_3 := blk_frozen BK135.out 3
        go_wp2
        refine bodyPost_ret (results_ctt rfl _ _ gb135 23 #[.int .i64 0, .int .i64 0, .int .i64 0, .int .i64 0] (0, 0) _ rfl (by (with_reducible repeat (first | refine blk_drewN ?_ _ | refine blk_drew ?_ | refine blk_alloc ?_ _)); refine blk_put (cs := #[.int .i64 0, .int .i64 0, .int .i64 0, .int .i64 0]) ?_ 3 _ rfl; (with_reducible repeat (first | refine blk_drewN ?_ _ | refine blk_drew ?_ | refine blk_alloc ?_ _)); refine blk_put (cs := #[.int .i64 0, .int .i64 0, .int .i64 0, .int .i64 0]) ?_ 2 _ rfl; (with_reducible repeat (first | refine blk_drewN ?_ _ | refine blk_drew ?_ | refine blk_alloc ?_ _)); refine blk_put (cs := #[.int .i64 0, .int .i64 0, .int .i64 0, .int .i64 0]) ?_ 1 _ rfl; (with_reducible repeat (first | refine blk_drewN ?_ _ | refine blk_drew ?_ | refine blk_alloc ?_ _)); refine blk_put (cs := #[.int .i64 0, .int .i64 0, .int .i64 0, .int .i64 0]) ?_ 0 _ rfl; (with_reducible repeat (first | refine blk_drewN ?_ _ | refine blk_drew ?_ | refine blk_alloc ?_ _)); exact BK135.out) Tryd.underlying23 rfl (by kernel_rfl)) rfl ?_
        exact ⟨by first | rfl | (simp [errW_none, errW_some] <;> rfl) | (simp [*, errW_none, errW_some] <;> rfl), by repeat (first | (with_reducible first | exact HB.out | apply below_alloc | apply pw_below_drewN | apply below_drew1 | refine below_set ?_ GE135.out) | exact HB.out)⟩
      · replace c6 := Bool.eq_false_iff.mpr c6
        subst c6
        have H1 : (if a1 = (a0.size : Int) then (some (0, 0, 0, 0, 0, 9)) else (if 0 ≤ a1 then (if a1 < (a0.size : Int) then ((ins_shapeOf.f (wrap64 (bt a0 a1))).bind fun t137 => (if t137 = 0 then (ins_Decode.j1 kj2 a0 a1 t137 true (wrap64 (bt a0 a1)) 0 0 0) else ((ins_shape_size.f kj2 t137).bind fun t138 => (ins_Decode.j1 kj2 a0 a1 t137 (decide ((wrap64 ((a0.size : Int) - a1)) < t138)) (wrap64 (bt a0 a1)) 0 0 0)))) else (none)) else (none))) = some (r1, r2, r3, r4, r5, r6) := by rw [if_neg (show ¬ (false = true) by decide)] at H; exact H
        clear H
        have H := H1
        clear H1
        by_cases c8 : a1 = (a0.size : Int)
        · rw [if_pos c8] at H
          have c8b0 : (a1 == (a0.size : Int)) = true := beq_iff_eq.mpr c8
          have c8b1 : (a1 != (a0.size : Int)) = false := bne_eq_false_iff_eq.mpr c8
          clear c8
          simp only [Option.some.injEq, Prod.mk.injEq] at H
          obtain ⟨rfl, rfl, rfl, rfl, rfl, rfl⟩ := H
          have hcz9_0 : wc.cell? ⟨gb135, 0, none⟩ = some (.int .i64 0) := (blk_cell BK135.out 0).trans rfl
          have hcz9_1 : wc.cell? ⟨gb135, 1, none⟩ = some (.int .i64 0) := (blk_cell BK135.out 1).trans rfl
          have hcz9_2 : wc.cell? ⟨gb135, 2, none⟩ = some (.int .i64 0) := (blk_cell BK135.out 2).trans rfl
          have hcz9_3 : wc.cell? ⟨gb135, 3, none⟩ = some (.int .i64 0) := (blk_cell BK135.out 3).trans rfl
          have hfz9_0 := blk_frozen BK135.out 0
          have hfz9_1 := blk_frozen BK135.out 1
          have hfz9_2 := blk_frozen BK135.out 2
          have hfz9_3 := blk_frozen BK135.out 3
          go_wp2
          refine bodyPost_ret (results_ctt rfl _ _ gb135 23 #[.int .i64 0, .int .i64 0, .int .i64 0, .int .i64 0] (0, 0) _ rfl (by (with_reducible repeat (first | refine blk_drewN ?_ _ | refine blk_drew ?_ | refine blk_alloc ?_ _)); refine blk_put (cs := #[.int .i64 0, .int .i64 0, .int .i64 0, .int .i64 0]) ?_ 3 _ rfl; (with_reducible repeat (first | refine blk_drewN ?_ _ | refine blk_drew ?_ | refine blk_alloc ?_ _)); refine blk_put (cs := #[.int .i64 0, .int .i64 0, .int .i64 0, .int .i64 0]) ?_ 2 _ rfl; (with_reducible repeat (first | refine blk_drewN ?_ _ | refine blk_drew ?_ | refine blk_alloc ?_ _)); refine blk_put (cs := #[.int .i64 0, .int .i64 0, .int .i64 0, .int .i64 0]) ?_ 1 _ rfl; (with_reducible repeat (first | refine blk_drewN ?_ _ | refine blk_drew ?_ | refine blk_alloc ?_ _)); refine blk_put (cs := #[.int .i64 0, .int .i64 0, .int .i64 0, .int .i64 0]) ?_ 0 _ rfl; (with_reducible repeat (first | refine blk_drewN ?_ _ | refine blk_drew ?_ | refine blk_alloc ?_ _)); exact BK135.out) Tryd.underlying23 rfl (by kernel_rfl)) rfl ?_
          exact ⟨by first | rfl | (simp [errW_none, errW_some] <;> rfl) | (simp [*, errW_none, errW_some] <;> rfl), by repeat (first | (with_reducible first | exact HB.out | apply below_alloc | apply pw_below_drewN | apply below_drew1 | refine below_set ?_ GE135.out) | exact HB.out)⟩
        · rw [if_neg c8] at H
          have c8b0 : (a1 == (a0.size : Int)) = false := beq_eq_false_iff_ne.mpr c8
          have c8b1 : (a1 != (a0.size : Int)) = true := bne_iff_ne.mpr c8
          by_cases c10 : 0 ≤ a1
          · rw [if_pos c10] at H
            have c10b0 : decide (0 ≤ a1) = true := decide_eq_true c10
            clear c10
            by_cases c11 : a1 < (a0.size : Int)
            · rw [if_pos c11] at H
              have c11b0 : decide (a1 < (a0.size : Int)) = true := decide_eq_true c11
              clear c11
              replace H := Option.bind_eq_some_iff.mp H
              obtain ⟨t137, A130, H⟩ := H
              replace H : (if t137 = 0 then (ins_Decode.j1 kj2 a0 a1 t137 true (wrap64 (bt a0 a1)) 0 0 0) else ((ins_shape_size.f kj2 t137).bind fun t138 => (ins_Decode.j1 kj2 a0 a1 t137 (decide ((wrap64 ((a0.size : Int) - a1)) < t138)) (wrap64 (bt a0 a1)) 0 0 0))) = some (r1, r2, r3, r4, r5, r6) := H
              have A13 := Aside0.mk A130
              clear A130
              have HC14 := Aside0.mk H
              clear H
              have p12 : 0 ≤ (a1 : Int) := of_decide_eq_true (by first | (with_reducible assumption) | assumption)
              have q12 : a1 < (a0.size : Int) := of_decide_eq_true (by first | (with_reducible assumption) | assumption)
              have hx12 := bt_at a0 a1
              replace p12 := eq_true p12
              replace q12 := eq_true q12
              go_upto_region 7 with (first | ((with_reducible refine gate_dst (N := 7) rfl ?_); (try (refine gate_guard (by rfl) ?_; dsimp only)); refine box_event ?hg (N := 7) ?hd (cs := #[.int .i64 0, .int .i64 0, .int .i64 0, .int .i64 0]) (t := 23) ?hr ?_; (case hd => rfl); (case hg => rfl); (case hr => first | (go_simp; done) | (go_simp; rfl)); intro gb136 hg w15 hbox hb; have n0_ := Aside0.mk (blk_below (g := gb135) (o := .cells #[.int .i64 0, .int .i64 0, .int .i64 0, .int .i64 0] 23 (0, 0)) (by (with_reducible repeat (first | refine blk_drewN ?_ _ | refine blk_drew ?_ | refine blk_alloc ?_ _)); exact BK135.out) hb); have n1_ := Aside0.mk (below_step (by repeat (first | (with_reducible first | exact HB.out | apply below_alloc | apply pw_below_drewN | apply below_drew1 | refine below_set ?_ GE135.out) | exact HB.out)) hb); have n2_ := Aside0.mk (hbox); have n3_ := Aside0.mk ((by rw [hg]; exact (below_size (by repeat (first | (with_reducible first | exact HB.out | apply below_alloc | apply pw_below_drewN | apply below_drew1 | refine below_set ?_ GE135.out) | exact HB.out))) : w.heap.size ≤ gb136)); have n4_ := Aside0.mk ((by rw [hg]; exact (below_size (by repeat (first | (with_reducible first | exact HB.out | apply below_alloc | apply pw_below_drewN | apply below_drew1 | refine below_set ?_ GE135.out) | exact HB.out))) : w.heap.size ≤ gb136)); have n5_ := Aside0.mk ((by rw [hg]; exact Nat.ne_of_lt (blk_lt (g := gb135) (o := .cells #[.int .i64 0, .int .i64 0, .int .i64 0, .int .i64 0] 23 (0, 0)) (by (with_reducible repeat (first | refine blk_drewN ?_ _ | refine blk_drew ?_ | refine blk_alloc ?_ _)); exact BK135.out)) : gb135 ≠ gb136)); have n6_ := Aside0.mk ((by rw [hg]; exact Nat.ne_of_gt (blk_lt (g := gb135) (o := .cells #[.int .i64 0, .int .i64 0, .int .i64 0, .int .i64 0] 23 (0, 0)) (by (with_reducible repeat (first | refine blk_drewN ?_ _ | refine blk_drew ?_ | refine blk_alloc ?_ _)); exact BK135.out)) : gb136 ≠ gb135)); clear BK135; clear HB; have BK135 := n0_; have HB := n1_; have BK136 := n2_; have GW136 := n3_; have GE136 := n4_; have NB135_136 := n5_; have NB136_135 := n6_; clear n0_ n1_ n2_ n3_ n4_ n5_ n6_; clear hb hbox hg; have hnb16 := NB136_135.out; have hnc16 := NB135_136.out; have hcz17_0 : w15.cell? ⟨gb136, 0, none⟩ = some (.int .i64 0) := (blk_cell BK136.out 0).trans rfl; have hcz17_1 : w15.cell? ⟨gb136, 1, none⟩ = some (.int .i64 0) := (blk_cell BK136.out 1).trans rfl; have hcz17_2 : w15.cell? ⟨gb136, 2, none⟩ = some (.int .i64 0) := (blk_cell BK136.out 2).trans rfl; have hcz17_3 : w15.cell? ⟨gb136, 3, none⟩ = some (.int .i64 0) := (blk_cell BK136.out 3).trans rfl; have hfz17_0 := blk_frozen BK136.out 0; have hfz17_1 := blk_frozen BK136.out 1; have hfz17_2 := blk_frozen BK136.out 2; have hfz17_3 := blk_frozen BK136.out 3) | ((with_reducible refine gate_callee (f := 19) rfl ?_); refine goesL_ (some 34) rfl rfl Tryd.func19 (by kernel_rfl) rfl #[.int .i64 (wrap64 (bt a0 a1))] rfl (by (try simp only [List.map_toArray, List.map_cons, List.map_nil]); first | done | rfl | (simp only [List.length_drop, List.length_take]; rfl)) ?_; (with_reducible refine (ins_shapeOf.calls (wrap64 (bt a0 a1)) t137 _ (HG.out.below (by first | exact Below.refl _ _ | (repeat (first | (with_reducible first | exact HB.out | apply below_alloc | apply pw_below_drewN | apply below_drew1 | refine below_set ?_ GE135.out | refine below_set ?_ GE136.out) | exact HB.out))) rfl) A13.out).mono ?_); rintro e w' ⟨rfl, ⟨nd, rfl⟩⟩; refine ⟨_, rfl, ?_⟩))
              (try simp only [Act.put, List.setIfInBounds_toArray, List.set_cons_zero, List.set_cons_succ])
              go_cut [45] (fun v45 wc => ∃ (kq : Nat) (x45_13 : Bool), v45 = .bool x45_13 ∧ Aside0 (ins_Decode.j1 kq a0 a1 t137 x45_13 (wrap64 (bt a0 a1)) 0 0 0 = some (r1, r2, r3, r4, r5, r6)) ∧ Aside0 (kq ≤ kj2) ∧ Aside0 (wc.heap[gb135]? = some (.cells #[.int .i64 0, .int .i64 0, .int .i64 0, .int .i64 0] 23 (0, 0))) ∧ Aside0 (wc.heap[gb136]? = some (.cells #[.int .i64 (wrap64 (bt a0 a1)), .int .i64 0, .int .i64 0, .int .i64 0] 23 (0, 0))) ∧ Aside0 (Below w.heap.size w wc))
              case first =>
                have H := HC14.out
                clear HC14
                by_cases c18 : t137 = 0
                · rw [if_pos c18] at H
                  have c18b0 : (t137 == 0) = true := beq_iff_eq.mpr c18
                  have c18b1 : (t137 != 0) = false := bne_eq_false_iff_eq.mpr c18
                  clear c18
                  (first | rw [c18b0] | (simp only [i64_w, i32_w]; rw [c18b0]) | skip)
                  have H' := Aside0.mk H
                  clear H
                  go_wp2
                  go_meet
                  case rel => exact ⟨_, (true), (by first | rfl | (simp; done) | (simp [*]; done)), H', ⟨by have := HJ2.out; first | omega | exact Nat.le_refl _⟩, ⟨by (with_reducible repeat (first | refine blk_drewN ?_ _ | refine blk_drew ?_ | refine blk_alloc ?_ _)); refine blk_far ?_ NB135_136.out _; (with_reducible repeat (first | refine blk_drewN ?_ _ | refine blk_drew ?_ | refine blk_alloc ?_ _)); refine blk_far ?_ NB135_136.out _; (with_reducible repeat (first | refine blk_drewN ?_ _ | refine blk_drew ?_ | refine blk_alloc ?_ _)); refine blk_far ?_ NB135_136.out _; (with_reducible repeat (first | refine blk_drewN ?_ _ | refine blk_drew ?_ | refine blk_alloc ?_ _)); refine blk_far ?_ NB135_136.out _; (with_reducible repeat (first | refine blk_drewN ?_ _ | refine blk_drew ?_ | refine blk_alloc ?_ _)); exact BK135.out⟩, ⟨by (with_reducible repeat (first | refine blk_drewN ?_ _ | refine blk_drew ?_ | refine blk_alloc ?_ _)); refine blk_put (cs := #[.int .i64 (wrap64 (bt a0 a1)), .int .i64 0, .int .i64 0, .int .i64 0]) ?_ 3 _ rfl; (with_reducible repeat (first | refine blk_drewN ?_ _ | refine blk_drew ?_ | refine blk_alloc ?_ _)); refine blk_put (cs := #[.int .i64 (wrap64 (bt a0 a1)), .int .i64 0, .int .i64 0, .int .i64 0]) ?_ 2 _ rfl; (with_reducible repeat (first | refine blk_drewN ?_ _ | refine blk_drew ?_ | refine blk_alloc ?_ _)); refine blk_put (cs := #[.int .i64 (wrap64 (bt a0 a1)), .int .i64 0, .int .i64 0, .int .i64 0]) ?_ 1 _ rfl; (with_reducible repeat (first | refine blk_drewN ?_ _ | refine blk_drew ?_ | refine blk_alloc ?_ _)); refine blk_put (cs := #[.int .i64 0, .int .i64 0, .int .i64 0, .int .i64 0]) ?_ 0 _ rfl; (with_reducible repeat (first | refine blk_drewN ?_ _ | refine blk_drew ?_ | refine blk_alloc ?_ _)); exact BK136.out⟩, ⟨by repeat (first | (with_reducible first | exact HB.out | apply below_alloc | apply pw_below_drewN | apply below_drew1 | refine below_set ?_ GE135.out | refine below_set ?_ GE136.out) | exact HB.out)⟩⟩
                · rw [if_neg c18] at H
                  have c18b0 : (t137 == 0) = false := beq_eq_false_iff_ne.mpr c18
                  have c18b1 : (t137 != 0) = true := bne_iff_ne.mpr c18
                  (first | rw [c18b0] | (simp only [i64_w, i32_w]; rw [c18b0]) | skip)
                  replace H := Option.bind_eq_some_iff.mp H
                  obtain ⟨t138, A190, H⟩ := H
                  replace H : (ins_Decode.j1 kj2 a0 a1 t137 (decide ((wrap64 ((a0.size : Int) - a1)) < t138)) (wrap64 (bt a0 a1)) 0 0 0) = some (r1, r2, r3, r4, r5, r6) := H
                  have A19 := Aside0.mk A190
                  clear A190
                  have H' := Aside0.mk H
                  clear H
                  go_wp2_with (first | (go_at_call 27; (with_reducible refine (ins_shape_size.calls kj2 t137 t138 _ A19.out).mono ?_); rintro e w' ⟨rfl, ⟨nd, rfl⟩⟩))
                  go_meet
                  case rel => exact ⟨_, (decide ((wrap64 ((a0.size : Int) - a1)) < t138)), (by first | rfl | (simp; done) | (simp [*]; done)), H', ⟨by have := HJ2.out; first | omega | exact Nat.le_refl _⟩, ⟨by (with_reducible repeat (first | refine blk_drewN ?_ _ | refine blk_drew ?_ | refine blk_alloc ?_ _)); refine blk_far ?_ NB135_136.out _; (with_reducible repeat (first | refine blk_drewN ?_ _ | refine blk_drew ?_ | refine blk_alloc ?_ _)); refine blk_far ?_ NB135_136.out _; (with_reducible repeat (first | refine blk_drewN ?_ _ | refine blk_drew ?_ | refine blk_alloc ?_ _)); refine blk_far ?_ NB135_136.out _; (with_reducible repeat (first | refine blk_drewN ?_ _ | refine blk_drew ?_ | refine blk_alloc ?_ _)); refine blk_far ?_ NB135_136.out _; (with_reducible repeat (first | refine blk_drewN ?_ _ | refine blk_drew ?_ | refine blk_alloc ?_ _)); exact BK135.out⟩, ⟨by (with_reducible repeat (first | refine blk_drewN ?_ _ | refine blk_drew ?_ | refine blk_alloc ?_ _)); refine blk_put (cs := #[.int .i64 (wrap64 (bt a0 a1)), .int .i64 0, .int .i64 0, .int .i64 0]) ?_ 3 _ rfl; (with_reducible repeat (first | refine blk_drewN ?_ _ | refine blk_drew ?_ | refine blk_alloc ?_ _)); refine blk_put (cs := #[.int .i64 (wrap64 (bt a0 a1)), .int .i64 0, .int .i64 0, .int .i64 0]) ?_ 2 _ rfl; (with_reducible repeat (first | refine blk_drewN ?_ _ | refine blk_drew ?_ | refine blk_alloc ?_ _)); refine blk_put (cs := #[.int .i64 (wrap64 (bt a0 a1)), .int .i64 0, .int .i64 0, .int .i64 0]) ?_ 1 _ rfl; (with_reducible repeat (first | refine blk_drewN ?_ _ | refine blk_drew ?_ | refine blk_alloc ?_ _)); refine blk_put (cs := #[.int .i64 0, .int .i64 0, .int .i64 0, .int .i64 0]) ?_ 0 _ rfl; (with_reducible repeat (first | refine blk_drewN ?_ _ | refine blk_drew ?_ | refine blk_alloc ?_ _)); exact BK136.out⟩, ⟨by repeat (first | (with_reducible first | exact HB.out | apply below_alloc | apply pw_below_drewN | apply below_drew1 | refine below_set ?_ GE135.out | refine below_set ?_ GE136.out) | exact HB.out)⟩⟩
              case rest =>
                clear HC14
                try clear c1
                try clear p1
                try clear q1
                try clear hx1
                try clear p2
                try clear c5
                try clear c5b0
                try clear c6
                try clear p6
                try clear c8
                try clear c8b0
                try clear c8b1
                try clear c10
                try clear c10b0
                try clear c11
                try clear c11b0
                try clear p12
                try clear q12
                try clear hx12
                try clear c14
                try clear c16
                try clear c18
                try clear c18b0
                try clear c18b1
                try clear c19
                try clear hcz17_0
                try clear hcz17_1
                try clear hcz17_2
                try clear hcz17_3
                try clear hcz7_0
                try clear hcz7_1
                try clear hcz7_2
                try clear hcz7_3
                try clear hcz9_0
                try clear hcz9_1
                try clear hcz9_2
                try clear hcz9_3
                try clear hfz17_0
                try clear hfz17_1
                try clear hfz17_2
                try clear hfz17_3
                try clear hfz7_0
                try clear hfz7_1
                try clear hfz7_2
                try clear hfz7_3
                try clear hfz9_0
                try clear hfz9_1
                try clear hfz9_2
                try clear hfz9_3
                try clear p12
                try clear p2
                try clear q12
                obtain ⟨kq, x45_13, rfl, HA, HJ13, BK135, BK136, HB⟩ := hcut
                cases kq with
                | zero => exact absurd HA.out (by simp [ins_Decode.j1])
                | succ kj13 =>
                  have H := HA.out
                  clear HA
                  simp only [ins_Decode.j1] at H
                  by_cases c20 : x45_13 = true
                  · subst c20
                    have H1 : (some (0, 0, 0, 0, 0, 9)) = some (r1, r2, r3, r4, r5, r6) := by rw [if_pos rfl] at H; exact H
                    clear H
                    have H := H1
                    clear H1
                    simp only [Option.some.injEq, Prod.mk.injEq] at H
                    obtain ⟨rfl, rfl, rfl, rfl, rfl, rfl⟩ := H
                    have hnb21 := NB135_136.out
                    have hnc21 := NB136_135.out
                    have hcz22_0 : wc.cell? ⟨gb135, 0, none⟩ = some (.int .i64 0) := (blk_cell BK135.out 0).trans rfl
                    have hcz22_1 : wc.cell? ⟨gb135, 1, none⟩ = some (.int .i64 0) := (blk_cell BK135.out 1).trans rfl
                    have hcz22_2 : wc.cell? ⟨gb135, 2, none⟩ = some (.int .i64 0) := (blk_cell BK135.out 2).trans rfl
                    have hcz22_3 : wc.cell? ⟨gb135, 3, none⟩ = some (.int .i64 0) := (blk_cell BK135.out 3).trans rfl
                    have hfz22_0 := blk_frozen BK135.out 0
                    have hfz22_1 := blk_frozen BK135.out 1
                    have hfz22_2 := blk_frozen BK135.out 2
                    have hfz22_3 := blk_frozen BK135.out 3
                    go_wp2
                    refine bodyPost_ret (results_ctt rfl _ _ gb135 23 #[.int .i64 0, .int .i64 0, .int .i64 0, .int .i64 0] (0, 0) _ rfl (by (with_reducible repeat (first | refine blk_drewN ?_ _ | refine blk_drew ?_ | refine blk_alloc ?_ _)); refine blk_put (cs := #[.int .i64 0, .int .i64 0, .int .i64 0, .int .i64 0]) ?_ 3 _ rfl; (with_reducible repeat (first | refine blk_drewN ?_ _ | refine blk_drew ?_ | refine blk_alloc ?_ _)); refine blk_put (cs := #[.int .i64 0, .int .i64 0, .int .i64 0, .int .i64 0]) ?_ 2 _ rfl; (with_reducible repeat (first | refine blk_drewN ?_ _ | refine blk_drew ?_ | refine blk_alloc ?_ _)); refine blk_put (cs := #[.int .i64 0, .int .i64 0, .int .i64 0, .int .i64 0]) ?_ 1 _ rfl; (with_reducible repeat (first | refine blk_drewN ?_ _ | refine blk_drew ?_ | refine blk_alloc ?_ _)); refine blk_put (cs := #[.int .i64 0, .int .i64 0, .int .i64 0, .int .i64 0]) ?_ 0 _ rfl; (with_reducible repeat (first | refine blk_drewN ?_ _ | refine blk_drew ?_ | refine blk_alloc ?_ _)); exact BK135.out) Tryd.underlying23 rfl (by kernel_rfl)) rfl ?_
                    exact ⟨by first | rfl | (simp [errW_none, errW_some] <;> rfl) | (simp [*, errW_none, errW_some] <;> rfl), by repeat (first | (with_reducible first | exact HB.out | apply below_alloc | apply pw_below_drewN | apply below_drew1 | refine below_set ?_ GE135.out | refine below_set ?_ GE136.out) | exact HB.out)⟩
                  · replace c20 := Bool.eq_false_iff.mpr c20
                    subst c20
                    have H1 : ((ins_shape_size.f kj13 t137).bind fun t139 => ((ins_shape_registers.f kj13 t137).bind fun t140 => (if t140 = 1 then (if 0 ≤ (wrap64 (a1 + 1)) then (if (wrap64 (a1 + 1)) < (a0.size : Int) then (ins_Decode.j2 kj13 a0 t137 (wrap64 (a1 + t139)) (wrap64 (bt a0 a1)) (wrap64 (bt a0 (wrap64 (a1 + 1)))) 0 0) else (none)) else (none)) else (if t140 = 2 then (if 0 ≤ (wrap64 (a1 + 1)) then (if (wrap64 (a1 + 1)) < (a0.size : Int) then (ins_Decode.j2 kj13 a0 t137 (wrap64 (a1 + t139)) (wrap64 (bt a0 a1)) (wrap64 ((bt a0 (wrap64 (a1 + 1))) / 16)) (wrap64 (Go.bits .and .u8 (bt a0 (wrap64 (a1 + 1))) 15)) 0) else (none)) else (none)) else (ins_Decode.j2 kj13 a0 t137 (wrap64 (a1 + t139)) (wrap64 (bt a0 a1)) 0 0 0))))) = some (r1, r2, r3, r4, r5, r6) := by rw [if_neg (show ¬ (false = true) by decide)] at H; exact H
                    clear H
                    have H := H1
                    clear H1
                    replace H := Option.bind_eq_some_iff.mp H
                    obtain ⟨t139, A230, H⟩ := H
                    replace H : ((ins_shape_registers.f kj13 t137).bind fun t140 => (if t140 = 1 then (if 0 ≤ (wrap64 (a1 + 1)) then (if (wrap64 (a1 + 1)) < (a0.size : Int) then (ins_Decode.j2 kj13 a0 t137 (wrap64 (a1 + t139)) (wrap64 (bt a0 a1)) (wrap64 (bt a0 (wrap64 (a1 + 1)))) 0 0) else (none)) else (none)) else (if t140 = 2 then (if 0 ≤ (wrap64 (a1 + 1)) then (if (wrap64 (a1 + 1)) < (a0.size : Int) then (ins_Decode.j2 kj13 a0 t137 (wrap64 (a1 + t139)) (wrap64 (bt a0 a1)) (wrap64 ((bt a0 (wrap64 (a1 + 1))) / 16)) (wrap64 (Go.bits .and .u8 (bt a0 (wrap64 (a1 + 1))) 15)) 0) else (none)) else (none)) else (ins_Decode.j2 kj13 a0 t137 (wrap64 (a1 + t139)) (wrap64 (bt a0 a1)) 0 0 0)))) = some (r1, r2, r3, r4, r5, r6) := H
                    have A23 := Aside0.mk A230
                    clear A230
                    replace H := Option.bind_eq_some_iff.mp H
                    obtain ⟨t140, A240, H⟩ := H
                    replace H : (if t140 = 1 then (if 0 ≤ (wrap64 (a1 + 1)) then (if (wrap64 (a1 + 1)) < (a0.size : Int) then (ins_Decode.j2 kj13 a0 t137 (wrap64 (a1 + t139)) (wrap64 (bt a0 a1)) (wrap64 (bt a0 (wrap64 (a1 + 1)))) 0 0) else (none)) else (none)) else (if t140 = 2 then (if 0 ≤ (wrap64 (a1 + 1)) then (if (wrap64 (a1 + 1)) < (a0.size : Int) then (ins_Decode.j2 kj13 a0 t137 (wrap64 (a1 + t139)) (wrap64 (bt a0 a1)) (wrap64 ((bt a0 (wrap64 (a1 + 1))) / 16)) (wrap64 (Go.bits .and .u8 (bt a0 (wrap64 (a1 + 1))) 15)) 0) else (none)) else (none)) else (ins_Decode.j2 kj13 a0 t137 (wrap64 (a1 + t139)) (wrap64 (bt a0 a1)) 0 0 0))) = some (r1, r2, r3, r4, r5, r6) := H
                    have A24 := Aside0.mk A240
                    clear A240
                    have HC25 := Aside0.mk H
                    clear H
                    go_upto_block 1 with (first | ((with_reducible refine gate_callee (f := 27) rfl ?_); refine goesL_ (some 49) rfl rfl Tryd.func27 (by kernel_rfl) rfl #[.int .u8 t137] rfl (by (try simp only [List.map_toArray, List.map_cons, List.map_nil]); first | done | rfl | (simp only [List.length_drop, List.length_take]; rfl)) ?_; (with_reducible refine (ins_shape_size.calls kj13 t137 t139 _ A23.out).mono ?_); rintro e w' ⟨rfl, ⟨nd, rfl⟩⟩; refine ⟨_, rfl, ?_⟩) | ((with_reducible refine gate_callee (f := 20) rfl ?_); refine goesL_ (some 52) rfl rfl Tryd.func20 (by kernel_rfl) rfl #[.int .u8 t137] rfl (by (try simp only [List.map_toArray, List.map_cons, List.map_nil]); first | done | rfl | (simp only [List.length_drop, List.length_take]; rfl)) ?_; (with_reducible refine (ins_shape_registers.calls kj13 t137 t140 _ A24.out).mono ?_); rintro e w' ⟨rfl, ⟨nd, rfl⟩⟩; refine ⟨_, rfl, ?_⟩))
                    (try simp only [Act.put, List.setIfInBounds_toArray, List.set_cons_zero, List.set_cons_succ])
                    go_cut [] (fun wc => ∃ (kq : Nat) (x137001_24 : Int) (x137002_24 : Int), Aside0 (ins_Decode.j2 kq a0 t137 (wrap64 (a1 + t139)) (wrap64 (bt a0 a1)) x137001_24 x137002_24 0 = some (r1, r2, r3, r4, r5, r6)) ∧ Aside0 (kq ≤ kj13) ∧ Aside0 (wc.heap[gb135]? = some (.cells #[.int .i64 0, .int .i64 0, .int .i64 0, .int .i64 0] 23 (0, 0))) ∧ Aside0 (wc.heap[gb136]? = some (.cells #[.int .i64 (wrap64 (bt a0 a1)), .int .i64 x137001_24, .int .i64 x137002_24, .int .i64 0] 23 (0, 0))) ∧ Aside0 (Below w.heap.size w wc))
                    case first =>
                      have H := HC25.out
                      clear HC25
                      by_cases c26 : t140 = 1
                      · rw [if_pos c26] at H
                        have c26b0 : (t140 == 1) = true := beq_iff_eq.mpr c26
                        have c26b1 : (t140 != 1) = false := bne_eq_false_iff_eq.mpr c26
                        clear c26
                        (first | rw [c26b0] | (simp only [i64_w, i32_w]; rw [c26b0]) | skip)
                        obtain ⟨ji27, hji27⟩ : ∃ j_ : Int, (wrap64 (a1 + 1)) = j_ := ⟨_, rfl⟩
                        replace H : (if 0 ≤ (ji27) then (if (ji27) < (a0.size : Int) then (ins_Decode.j2 kj13 a0 t137 (wrap64 (a1 + t139)) (wrap64 (bt a0 a1)) (wrap64 (bt a0 (ji27))) 0 0) else (none)) else (none)) = some (r1, r2, r3, r4, r5, r6) := by first | (rw [hji27] at H; exact H) | (simp only [hji27] at H ⊢; exact H)
                        have hji27w : (IntKind.i64.wrap (a1 + 1)) = ji27 := (i64_w _).trans hji27
                        by_cases c28 : 0 ≤ (ji27)
                        · rw [if_pos c28] at H
                          have c28b0 : decide (0 ≤ (ji27)) = true := decide_eq_true c28
                          clear c28
                          by_cases c29 : (ji27) < (a0.size : Int)
                          · rw [if_pos c29] at H
                            have c29b0 : decide ((ji27) < (a0.size : Int)) = true := decide_eq_true c29
                            clear c29
                            have H' := Aside0.mk H
                            clear H
                            have p30 : 0 ≤ ((ji27) : Int) := of_decide_eq_true (by first | (with_reducible assumption) | assumption)
                            have q30 : (ji27) < (a0.size : Int) := of_decide_eq_true (by first | (with_reducible assumption) | assumption)
                            have hx30 := bt_at a0 (ji27)
                            replace p30 := eq_true p30
                            replace q30 := eq_true q30
                            have hnb31 := NB136_135.out
                            have hnc31 := NB135_136.out
                            have hcz32_0 : wc.cell? ⟨gb136, 0, none⟩ = some (.int .i64 (wrap64 (bt a0 a1))) := (blk_cell BK136.out 0).trans rfl
                            have hcz32_1 : wc.cell? ⟨gb136, 1, none⟩ = some (.int .i64 0) := (blk_cell BK136.out 1).trans rfl
                            have hcz32_2 : wc.cell? ⟨gb136, 2, none⟩ = some (.int .i64 0) := (blk_cell BK136.out 2).trans rfl
                            have hcz32_3 : wc.cell? ⟨gb136, 3, none⟩ = some (.int .i64 0) := (blk_cell BK136.out 3).trans rfl
                            have hfz32_0 := blk_frozen BK136.out 0
                            have hfz32_1 := blk_frozen BK136.out 1
                            have hfz32_2 := blk_frozen BK136.out 2
                            have hfz32_3 := blk_frozen BK136.out 3
                            go_wp2
                            go_meet
                            case rel => exact ⟨_, (wrap64 (bt a0 (ji27))), (0), H', ⟨by have := HJ2.out; have := HJ13.out; first | omega | exact Nat.le_refl _⟩, ⟨by (with_reducible repeat (first | refine blk_drewN ?_ _ | refine blk_drew ?_ | refine blk_alloc ?_ _)); refine blk_far ?_ NB135_136.out _; (with_reducible repeat (first | refine blk_drewN ?_ _ | refine blk_drew ?_ | refine blk_alloc ?_ _)); exact BK135.out⟩, ⟨by (with_reducible repeat (first | refine blk_drewN ?_ _ | refine blk_drew ?_ | refine blk_alloc ?_ _)); refine blk_put (cs := #[.int .i64 (wrap64 (bt a0 a1)), .int .i64 0, .int .i64 0, .int .i64 0]) ?_ 1 _ rfl; (with_reducible repeat (first | refine blk_drewN ?_ _ | refine blk_drew ?_ | refine blk_alloc ?_ _)); exact BK136.out⟩, ⟨by repeat (first | (with_reducible first | exact HB.out | apply below_alloc | apply pw_below_drewN | apply below_drew1 | refine below_set ?_ GE135.out | refine below_set ?_ GE136.out) | exact HB.out)⟩⟩
                          · rw [if_neg c29] at H
                            exact absurd H (by simp)
                        · rw [if_neg c28] at H
                          exact absurd H (by simp)
                      · rw [if_neg c26] at H
                        have c26b0 : (t140 == 1) = false := beq_eq_false_iff_ne.mpr c26
                        have c26b1 : (t140 != 1) = true := bne_iff_ne.mpr c26
                        (first | rw [c26b0] | (simp only [i64_w, i32_w]; rw [c26b0]) | skip)
                        by_cases c33 : t140 = 2
                        · rw [if_pos c33] at H
                          have c33b0 : (t140 == 2) = true := beq_iff_eq.mpr c33
                          have c33b1 : (t140 != 2) = false := bne_eq_false_iff_eq.mpr c33
                          clear c33
                          obtain ⟨ji34, hji34⟩ : ∃ j_ : Int, (wrap64 (a1 + 1)) = j_ := ⟨_, rfl⟩
                          replace H : (if 0 ≤ (ji34) then (if (ji34) < (a0.size : Int) then (ins_Decode.j2 kj13 a0 t137 (wrap64 (a1 + t139)) (wrap64 (bt a0 a1)) (wrap64 ((bt a0 (ji34)) / 16)) (wrap64 (Go.bits .and .u8 (bt a0 (ji34)) 15)) 0) else (none)) else (none)) = some (r1, r2, r3, r4, r5, r6) := by first | (rw [hji34] at H; exact H) | (simp only [hji34] at H ⊢; exact H)
                          have hji34w : (IntKind.i64.wrap (a1 + 1)) = ji34 := (i64_w _).trans hji34
                          by_cases c35 : 0 ≤ (ji34)
                          · rw [if_pos c35] at H
                            have c35b0 : decide (0 ≤ (ji34)) = true := decide_eq_true c35
                            clear c35
                            by_cases c36 : (ji34) < (a0.size : Int)
                            · rw [if_pos c36] at H
                              have c36b0 : decide ((ji34) < (a0.size : Int)) = true := decide_eq_true c36
                              clear c36
                              have H' := Aside0.mk H
                              clear H
                              try go_wp2
                              have o_BK135 := BK135
                              have n0_ := Aside0.mk (blk_drew BK135.out)
                              have o_BK136 := BK136
                              have n1_ := Aside0.mk (blk_drew BK136.out)
                              have o_HB := HB
                              have n2_ := Aside0.mk (below_drew1 HB.out)
                              clear BK135
                              clear BK136
                              clear HB
                              have BK135 := n0_
                              have BK136 := n1_
                              have HB := n2_
                              clear n0_ n1_ n2_
                              have p37 : 0 ≤ ((ji34) : Int) := of_decide_eq_true (by first | (with_reducible assumption) | assumption)
                              have q37 : (ji34) < (a0.size : Int) := of_decide_eq_true (by first | (with_reducible assumption) | assumption)
                              have hx37 := bt_at a0 (ji34)
                              replace p37 := eq_true p37
                              replace q37 := eq_true q37
                              have p38 : 0 ≤ ((ji34) : Int) := of_decide_eq_true (by first | (with_reducible assumption) | assumption)
                              have q38 : (ji34) < (a0.size : Int) := of_decide_eq_true (by first | (with_reducible assumption) | assumption)
                              have hx38 := bt_at a0 (ji34)
                              replace p38 := eq_true p38
                              replace q38 := eq_true q38
                              refine start_ (n := 16) (S := fun w' => True) (ds := []) #[false, false, false, false, false, false, false, false, false, false, false, false, false, false, false, false] (by kernel_rfl) rfl rfl trivial (fun hHeld => ?_); refine with_tabW ins_Decode.tab14 ins_Decode.bits14 (fun HT_ HW_ => ?_)
                              first | (generalize hwd_ : wc.drewN _ = w39 at hHeld ⊢; obtain ⟨nN_, hn_⟩ : ∃ n_, wc.drewN n_ = w39 := ⟨_, hwd_⟩; clear BK135 BK136 HB; have BK135 := Aside0.mk (blk_drewN o_BK135.out nN_); rw [hn_] at BK135; have BK136 := Aside0.mk (blk_drewN o_BK136.out nN_); rw [hn_] at BK136; have HB := Aside0.mk (pw_below_drewN o_HB.out nN_); rw [hn_] at HB; clear hn_ hwd_) | generalize wc.drew = w39 at BK135 BK136 HB hHeld ⊢
                              refine pure_ (i := 0) (N := some 63) (v := ?_) (a' := ?_) #[true, false, false, false, false, false, false, false, false, false, false, false, false, false, false, false] rfl rfl (any_of HT_.out (by kernel_rfl)) (fun _ _ _ h => h) (Or.inl ⟨by rfl, ?_⟩) ?_ ?_
                              rotate_left
                              · intro w'
                                go_simp
                                with_reducible rfl
                              rotate_left
                              · simp only [Act.put, List.setIfInBounds_toArray, List.set_cons_zero, List.set_cons_succ, i64_w, i32_w]
                                rfl
                              refine pure_ (i := 1) (N := some 64) (v := ?_) (a' := ?_) #[true, true, false, false, false, false, false, false, false, false, false, false, false, false, false, false] rfl rfl (any_of HT_.out (by kernel_rfl)) (fun _ _ _ h => h) (Or.inl ⟨by rfl, ?_⟩) ?_ ?_
                              rotate_left
                              · intro w'
                                go_simp
                                with_reducible rfl
                              rotate_left
                              · simp only [Act.put, List.setIfInBounds_toArray, List.set_cons_zero, List.set_cons_succ, i64_w, i32_w]
                                rfl
                              refine pure_ (i := 2) (N := some 65) (v := ?_) (a' := ?_) #[true, true, true, false, false, false, false, false, false, false, false, false, false, false, false, false] rfl rfl (any_of HT_.out (by kernel_rfl)) (fun _ _ _ h => h) (Or.inl ⟨by rfl, ?_⟩) ?_ ?_
                              rotate_left
                              · intro w'
                                go_simp
                                with_reducible rfl
                              rotate_left
                              · simp only [Act.put, List.setIfInBounds_toArray, List.set_cons_zero, List.set_cons_succ, i64_w, i32_w]
                                rfl
                              refine pure_ (i := 6) (N := some 69) (v := ?_) (a' := ?_) #[true, true, true, false, false, false, true, false, false, false, false, false, false, false, false, false] rfl rfl (any_of HT_.out (by kernel_rfl)) (fun _ _ _ h => h) (Or.inl ⟨by rfl, ?_⟩) ?_ ?_
                              rotate_left
                              · intro w'
                                go_simp
                                with_reducible rfl
                              rotate_left
                              · simp only [Act.put, List.setIfInBounds_toArray, List.set_cons_zero, List.set_cons_succ, i64_w, i32_w]
                                rfl
                              refine pure_ (i := 7) (N := some 70) (v := ?_) (a' := ?_) #[true, true, true, false, false, false, true, true, false, false, false, false, false, false, false, false] rfl rfl (any_of HT_.out (by kernel_rfl)) (fun _ _ _ h => h) (Or.inl ⟨by rfl, ?_⟩) ?_ ?_
                              rotate_left
                              · intro w'
                                go_simp
                                with_reducible rfl
                              rotate_left
                              · simp only [Act.put, List.setIfInBounds_toArray, List.set_cons_zero, List.set_cons_succ, i64_w, i32_w]
                                rfl
                              refine pure_ (i := 8) (N := some 71) (v := ?_) (a' := ?_) #[true, true, true, false, false, false, true, true, true, false, false, false, false, false, false, false] rfl rfl (any_of HT_.out (by kernel_rfl)) (fun _ _ _ h => h) (Or.inl ⟨by rfl, ?_⟩) ?_ ?_
                              rotate_left
                              · intro w'
                                go_simp
                                with_reducible rfl
                              rotate_left
                              · simp only [Act.put, List.setIfInBounds_toArray, List.set_cons_zero, List.set_cons_succ, i64_w, i32_w]
                                rfl
                              refine take_ (i := 3) (N := some 66) (v := ?_) (a' := ?_) #[true, true, true, true, false, false, true, true, true, false, false, false, false, false, false, false] rfl rfl (take_ofW HT_.out HW_.out (by kernel_rfl)) (fun _ _ _ h => h) (Or.inl ⟨by rfl, ?_⟩) hHeld ?_ ?_
                              rotate_left
                              · intro w' _
                                go_simp
                                with_reducible rfl
                              rotate_left
                              · simp only [Act.put, List.setIfInBounds_toArray, List.set_cons_zero, List.set_cons_succ, i64_w, i32_w]
                                rfl
                              refine pure_ (i := 4) (N := some 67) (v := ?_) (a' := ?_) #[true, true, true, true, true, false, true, true, true, false, false, false, false, false, false, false] rfl rfl (any_of HT_.out (by kernel_rfl)) (fun _ _ _ h => h) (Or.inl ⟨by rfl, ?_⟩) ?_ ?_
                              rotate_left
                              · intro w'
                                go_simp
                                with_reducible rfl
                              rotate_left
                              · simp only [Act.put, List.setIfInBounds_toArray, List.set_cons_zero, List.set_cons_succ, i64_w, i32_w]
                                rfl
                              refine pure_ (i := 5) (N := some 68) (v := ?_) (a' := ?_) #[true, true, true, true, true, true, true, true, true, false, false, false, false, false, false, false] rfl rfl (any_of HT_.out (by kernel_rfl)) (fun _ _ _ h => h) (Or.inl ⟨by rfl, ?_⟩) ?_ ?_
                              rotate_left
                              · intro w'
                                go_simp
                                with_reducible rfl
                              rotate_left
                              · simp only [Act.put, List.setIfInBounds_toArray, List.set_cons_zero, List.set_cons_succ, i64_w, i32_w]
                                rfl
                              refine pure_ (i := 12) (N := some 75) (v := ?_) (a' := ?_) #[true, true, true, true, true, true, true, true, true, false, false, false, true, false, false, false] rfl rfl (any_of HT_.out (by kernel_rfl)) (fun _ _ _ h => h) (Or.inl ⟨by rfl, ?_⟩) ?_ ?_
                              rotate_left
                              · intro w'
                                go_simp
                                with_reducible rfl
                              rotate_left
                              · simp only [Act.put, List.setIfInBounds_toArray, List.set_cons_zero, List.set_cons_succ, i64_w, i32_w]
                                rfl
                              refine take_ (i := 9) (N := some 72) (v := ?_) (a' := ?_) #[true, true, true, true, true, true, true, true, true, true, false, false, true, false, false, false] rfl rfl (take_ofW HT_.out HW_.out (by kernel_rfl)) (fun _ _ _ h => h) (Or.inl ⟨by rfl, ?_⟩) hHeld ?_ ?_
                              rotate_left
                              · intro w' _
                                go_simp
                                with_reducible rfl
                              rotate_left
                              · simp only [Act.put, List.setIfInBounds_toArray, List.set_cons_zero, List.set_cons_succ, i64_w, i32_w]
                                rfl
                              refine pure_ (i := 10) (N := some 73) (v := ?_) (a' := ?_) #[true, true, true, true, true, true, true, true, true, true, true, false, true, false, false, false] rfl rfl (any_of HT_.out (by kernel_rfl)) (fun _ _ _ h => h) (Or.inl ⟨by rfl, ?_⟩) ?_ ?_
                              rotate_left
                              · intro w'
                                go_simp
                                with_reducible rfl
                              rotate_left
                              · simp only [Act.put, List.setIfInBounds_toArray, List.set_cons_zero, List.set_cons_succ, i64_w, i32_w]
                                rfl
                              refine pure_ (i := 11) (N := some 74) (v := ?_) (a' := ?_) #[true, true, true, true, true, true, true, true, true, true, true, true, true, false, false, false] rfl rfl (any_of HT_.out (by kernel_rfl)) (fun _ _ _ h => h) (Or.inl ⟨by rfl, ?_⟩) ?_ ?_
                              rotate_left
                              · intro w'
                                go_simp
                                with_reducible rfl
                              rotate_left
                              · simp only [Act.put, List.setIfInBounds_toArray, List.set_cons_zero, List.set_cons_succ, i64_w, i32_w]
                                rfl
                              refine one_ (i := 13) (N := none) #[true, true, true, true, true, true, true, true, true, true, true, true, true, true, false, false] rfl rfl (one_of HT_.out (by kernel_rfl)) (by decide) (fun K hK => ?_)
                              have hs40 : w39.cell? ⟨gb136, 1, none⟩ = some (.int .i64 0) := (blk_cell BK136.out 1).trans rfl
                              have hfs40 := blk_frozen BK136.out 1
                              have hns40_0 := NB135_136.out
                              have hms40_0 := NB136_135.out
                              refine skip_ (w1 := ?_) (by rfl) rfl ?_ ?_
                              rotate_left
                              · go_simp
                                rfl
                              refine hK.out _ _ trivial (fun hHeld => ?_)
                              clear hK K
                              refine pure_ (i := 14) (N := some 76) (v := ?_) (a' := ?_) #[true, true, true, true, true, true, true, true, true, true, true, true, true, true, true, false] rfl rfl (any_of HT_.out (by kernel_rfl)) (fun _ _ _ h => h) (Or.inl ⟨by rfl, ?_⟩) ?_ ?_
                              rotate_left
                              · intro w'
                                go_simp
                                with_reducible rfl
                              rotate_left
                              · simp only [Act.put, List.setIfInBounds_toArray, List.set_cons_zero, List.set_cons_succ, i64_w, i32_w]
                                rfl
                              refine one_ (i := 15) (N := none) #[true, true, true, true, true, true, true, true, true, true, true, true, true, true, true, true] rfl rfl (one_of HT_.out (by kernel_rfl)) (by decide) (fun K hK => ?_)
                              have hs41 : w39.cell? ⟨gb136, 2, none⟩ = some (.int .i64 0) := (blk_cell BK136.out 2).trans rfl
                              have hfs41 := blk_frozen BK136.out 2
                              have hns41_0 := NB135_136.out
                              have hms41_0 := NB136_135.out
                              refine skip_at (ad := ⟨gb136, 2, none⟩) (old := .int .i64 0) (v := ?_) (by rfl) rfl (fun W' hc' hf' => ?_) ?_ ?_ ?_
                              rotate_left
                              · go_simp
                                rfl
                              · go_simp
                              · go_simp
                              refine hK.out _ _ trivial (fun hHeld => ?_)
                              clear hK K
                              refine done_ (done_of HT_.out (by kernel_rfl)) ?_
                              try go_wp2
                              go_meet
                              case rel => exact ⟨_, (wrap64 ((bt a0 (ji34)) / 16)), (wrap64 (Go.bits .and .u8 (bt a0 (ji34)) 15)), H', ⟨by have := HJ2.out; have := HJ13.out; first | omega | exact Nat.le_refl _⟩, ⟨by (with_reducible repeat (first | refine blk_drewN ?_ _ | refine blk_drew ?_ | refine blk_alloc ?_ _)); refine blk_far ?_ NB135_136.out _; (with_reducible repeat (first | refine blk_drewN ?_ _ | refine blk_drew ?_ | refine blk_alloc ?_ _)); refine blk_far ?_ NB135_136.out _; (with_reducible repeat (first | refine blk_drewN ?_ _ | refine blk_drew ?_ | refine blk_alloc ?_ _)); exact BK135.out⟩, ⟨by (with_reducible repeat (first | refine blk_drewN ?_ _ | refine blk_drew ?_ | refine blk_alloc ?_ _)); refine blk_put (cs := #[.int .i64 (wrap64 (bt a0 a1)), .int .i64 (wrap64 ((bt a0 (ji34)) / 16)), .int .i64 0, .int .i64 0]) ?_ 2 _ rfl; (with_reducible repeat (first | refine blk_drewN ?_ _ | refine blk_drew ?_ | refine blk_alloc ?_ _)); refine blk_put (cs := #[.int .i64 (wrap64 (bt a0 a1)), .int .i64 0, .int .i64 0, .int .i64 0]) ?_ 1 _ rfl; (with_reducible repeat (first | refine blk_drewN ?_ _ | refine blk_drew ?_ | refine blk_alloc ?_ _)); exact BK136.out⟩, ⟨by repeat (first | (with_reducible first | exact HB.out | apply below_alloc | apply pw_below_drewN | apply below_drew1 | refine below_set ?_ GE135.out | refine below_set ?_ GE136.out) | exact HB.out)⟩⟩
                            · rw [if_neg c36] at H
                              exact absurd H (by simp)
                          · rw [if_neg c35] at H
                            exact absurd H (by simp)
                        · rw [if_neg c33] at H
                          have c33b0 : (t140 == 2) = false := beq_eq_false_iff_ne.mpr c33
                          have c33b1 : (t140 != 2) = true := bne_iff_ne.mpr c33
                          have H' := Aside0.mk H
                          clear H
                          go_wp2
                          go_meet
                          case rel => exact ⟨_, (0), (0), H', ⟨by have := HJ2.out; have := HJ13.out; first | omega | exact Nat.le_refl _⟩, ⟨by (with_reducible repeat (first | refine blk_drewN ?_ _ | refine blk_drew ?_ | refine blk_alloc ?_ _)); exact BK135.out⟩, ⟨by (with_reducible repeat (first | refine blk_drewN ?_ _ | refine blk_drew ?_ | refine blk_alloc ?_ _)); exact BK136.out⟩, ⟨by repeat (first | (with_reducible first | exact HB.out | apply below_alloc | apply pw_below_drewN | apply below_drew1 | refine below_set ?_ GE135.out | refine below_set ?_ GE136.out) | exact HB.out)⟩⟩
                    case rest =>
                      clear HC25
                      try clear c1
                      try clear p1
                      try clear q1
                      try clear hx1
                      try clear c2
                      try clear p2
                      try clear c3
                      try clear p3
                      try clear q3
                      try clear hx3
                      try clear c5
                      try clear c5b0
                      try clear c6
                      try clear p6
                      try clear c8
                      try clear c8b0
                      try clear c8b1
                      try clear c10
                      try clear c10b0
                      try clear c11
                      try clear c11b0
                      try clear p12
                      try clear q12
                      try clear hx12
                      try clear c14
                      try clear c16
                      try clear c18
                      try clear c18b0
                      try clear c18b1
                      try clear c19
                      try clear c20
                      try clear c21
                      try clear c26
                      try clear c26b0
                      try clear c26b1
                      try clear c27
                      try clear c28
                      try clear c28b0
                      try clear c29
                      try clear c29b0
                      try clear p30
                      try clear q30
                      try clear hx30
                      try clear c31
                      try clear c33
                      try clear c33b0
                      try clear c33b1
                      try clear c35
                      try clear c35b0
                      try clear c36
                      try clear c36b0
                      try clear p37
                      try clear q37
                      try clear hx37
                      try clear p38
                      try clear q38
                      try clear hx38
                      try clear hcz17_0
                      try clear hcz17_1
                      try clear hcz17_2
                      try clear hcz17_3
                      try clear hcz22_0
                      try clear hcz22_1
                      try clear hcz22_2
                      try clear hcz22_3
                      try clear hcz32_0
                      try clear hcz32_1
                      try clear hcz32_2
                      try clear hcz32_3
                      try clear hcz7_0
                      try clear hcz7_1
                      try clear hcz7_2
                      try clear hcz7_3
                      try clear hcz9_0
                      try clear hcz9_1
                      try clear hcz9_2
                      try clear hcz9_3
                      try clear hfz17_0
                      try clear hfz17_1
                      try clear hfz17_2
                      try clear hfz17_3
                      try clear hfz22_0
                      try clear hfz22_1
                      try clear hfz22_2
                      try clear hfz22_3
                      try clear hfz32_0
                      try clear hfz32_1
                      try clear hfz32_2
                      try clear hfz32_3
                      try clear hfz7_0
                      try clear hfz7_1
                      try clear hfz7_2
                      try clear hfz7_3
                      try clear hfz9_0
                      try clear hfz9_1
                      try clear hfz9_2
                      try clear hfz9_3
                      try clear p1
                      try clear p12
                      try clear p2
                      try clear p30
                      try clear p37
                      try clear p38
                      try clear p6
                      try clear q1
                      try clear q12
                      try clear q30
                      try clear q37
                      try clear q38
                      obtain ⟨kq, x137001_24, x137002_24, HA, HJ24, BK135, BK136, HB⟩ := hcut
                      cases kq with
                      | zero => exact absurd HA.out (by simp [ins_Decode.j2])
                      | succ kj24 =>
                        have H := HA.out
                        clear HA
                        simp only [ins_Decode.j2] at H
                        replace H := Option.bind_eq_some_iff.mp H
                        obtain ⟨t141, A420, H⟩ := H
                        replace H : (if t141 > 0 then (if 0 ≤ (wrap64 ((wrap64 (a1 + t139)) - t141)) then (if (wrap64 ((wrap64 (a1 + t139)) - t141)) ≤ (wrap64 (a1 + t139)) then (if (wrap64 (a1 + t139)) ≤ (a0.size : Int) then ((word_Number.f kj24 (a0.extract ((wrap64 ((wrap64 (a1 + t139)) - t141)) : Int).toNat ((wrap64 (a1 + t139)) : Int).toNat)).bind fun bt142 => (ins_Decode.j3 kj24 t137 (wrap64 (a1 + t139)) (wrap64 (bt a0 a1)) x137001_24 x137002_24 bt142.1)) else (none)) else (none)) else (none)) else (ins_Decode.j3 kj24 t137 (wrap64 (a1 + t139)) (wrap64 (bt a0 a1)) x137001_24 x137002_24 0)) = some (r1, r2, r3, r4, r5, r6) := H
                        have A42 := Aside0.mk A420
                        clear A420
                        have HC43 := Aside0.mk H
                        clear H
                        go_upto_if 80 with (first | ((with_reducible refine gate_callee (f := 22) rfl ?_); refine goesL_ (some 78) rfl rfl Tryd.func22 (by kernel_rfl) rfl #[.int .u8 t137] rfl (by (try simp only [List.map_toArray, List.map_cons, List.map_nil]); first | done | rfl | (simp only [List.length_drop, List.length_take]; rfl)) ?_; (with_reducible refine (ins_shape_width.calls kj24 t137 t141 _ A42.out).mono ?_); rintro e w' ⟨rfl, ⟨nd, rfl⟩⟩; refine ⟨_, rfl, ?_⟩))
                        (try simp only [Act.put, List.setIfInBounds_toArray, List.set_cons_zero, List.set_cons_succ])
                        go_cut [] (fun wc => ∃ (kq : Nat) (x137003_42 : Int), Aside0 (ins_Decode.j3 kq t137 (wrap64 (a1 + t139)) (wrap64 (bt a0 a1)) x137001_24 x137002_24 x137003_42 = some (r1, r2, r3, r4, r5, r6)) ∧ Aside0 (kq ≤ kj24) ∧ Aside0 (wc.heap[gb135]? = some (.cells #[.int .i64 0, .int .i64 0, .int .i64 0, .int .i64 0] 23 (0, 0))) ∧ Aside0 (wc.heap[gb136]? = some (.cells #[.int .i64 (wrap64 (bt a0 a1)), .int .i64 x137001_24, .int .i64 x137002_24, .int .i64 x137003_42] 23 (0, 0))) ∧ Aside0 (Below w.heap.size w wc))
                        case first =>
                          have H := HC43.out
                          clear HC43
                          by_cases c44 : t141 > 0
                          · rw [if_pos c44] at H
                            have c44b0 : decide (0 < t141) = true := decide_eq_true c44
                            clear c44
                            (first | rw [c44b0] | (simp only [i64_w, i32_w]; rw [c44b0]) | skip)
                            obtain ⟨ji45, hji45⟩ : ∃ j_ : Int, (wrap64 ((wrap64 (a1 + t139)) - t141)) = j_ := ⟨_, rfl⟩
                            replace H : (if 0 ≤ (ji45) then (if (ji45) ≤ (wrap64 (a1 + t139)) then (if (wrap64 (a1 + t139)) ≤ (a0.size : Int) then ((word_Number.f kj24 (a0.extract ((ji45) : Int).toNat ((wrap64 (a1 + t139)) : Int).toNat)).bind fun bt142 => (ins_Decode.j3 kj24 t137 (wrap64 (a1 + t139)) (wrap64 (bt a0 a1)) x137001_24 x137002_24 bt142.1)) else (none)) else (none)) else (none)) = some (r1, r2, r3, r4, r5, r6) := by first | (rw [hji45] at H; exact H) | (simp only [hji45] at H ⊢; exact H)
                            have hji45w : (IntKind.i64.wrap ((wrap64 (a1 + t139)) - t141)) = ji45 := (i64_w _).trans hji45
                            by_cases c46 : 0 ≤ (ji45)
                            · rw [if_pos c46] at H
                              have c46b0 := eq_true c46
                              have c46b1 : decide (0 ≤ (ji45)) = true := decide_eq_true c46
                              clear c46
                              by_cases c47 : (ji45) ≤ (wrap64 (a1 + t139))
                              · rw [if_pos c47] at H
                                have c47b0 := eq_true c47
                                have c47b1 : decide ((ji45) ≤ (wrap64 (a1 + t139))) = true := decide_eq_true c47
                                by_cases c48 : (wrap64 (a1 + t139)) ≤ (a0.size : Int)
                                · rw [if_pos c48] at H
                                  have c48b0 := eq_true c48
                                  have c48b1 : decide ((wrap64 (a1 + t139)) ≤ (a0.size : Int)) = true := decide_eq_true c48
                                  replace H := Option.bind_eq_some_iff.mp H
                                  obtain ⟨⟨t142, t143⟩, A490, H⟩ := H
                                  replace H : (ins_Decode.j3 kj24 t137 (wrap64 (a1 + t139)) (wrap64 (bt a0 a1)) x137001_24 x137002_24 t142) = some (r1, r2, r3, r4, r5, r6) := H
                                  have A49 := Aside0.mk A490
                                  clear A490
                                  have H' := Aside0.mk H
                                  clear H
                                  go_wp2_with (first | ((with_reducible refine gate_callee (f := 28) rfl ?_); refine goesL_ (some 88) rfl rfl Tryd.func28 (by kernel_rfl) rfl #[.string (a0.extract ((ji45) : Int).toNat ((wrap64 (a1 + t139)) : Int).toNat)] rfl (by (try simp only [List.map_toArray, List.map_cons, List.map_nil]); first | done | (simp only [hji45]; rfl) | rfl | (simp only [List.length_drop, List.length_take]; rfl)) ?_; (with_reducible refine (word_Number.calls kj24 (a0.extract ((ji45) : Int).toNat ((wrap64 (a1 + t139)) : Int).toNat) t142 t143 _ A49.out).mono ?_); rintro e w' ⟨rfl, ⟨nd, rfl⟩⟩; refine ⟨_, rfl, ?_⟩; (try (rw [drewN_self wc]; generalize hq_ : World.drewN wc _ = wc; have n0_ : Aside0 (wc.heap[gb135]? = some (.cells #[.int .i64 0, .int .i64 0, .int .i64 0, .int .i64 0] 23 (0, 0))) := ⟨by rw [← hq_]; exact (by (with_reducible repeat (first | refine blk_drewN ?_ _ | refine blk_drew ?_ | refine blk_alloc ?_ _)); exact BK135.out)⟩; have n1_ : Aside0 (wc.heap[gb136]? = some (.cells #[.int .i64 (wrap64 (bt a0 a1)), .int .i64 x137001_24, .int .i64 x137002_24, .int .i64 0] 23 (0, 0))) := ⟨by rw [← hq_]; exact (by (with_reducible repeat (first | refine blk_drewN ?_ _ | refine blk_drew ?_ | refine blk_alloc ?_ _)); exact BK136.out)⟩; have n2_ : Aside0 (Below w.heap.size w wc) := ⟨by rw [← hq_]; exact (by repeat (first | (with_reducible first | exact HB.out | apply below_alloc | apply pw_below_drewN | apply below_drew1 | refine below_set ?_ GE135.out | refine below_set ?_ GE136.out) | exact HB.out))⟩; clear BK135 BK136 HB hq_; have BK135 := n0_; have BK136 := n1_; have HB := n2_; clear n0_ n1_ n2_; have hcq135_0 : wc.cell? ⟨gb135, 0, none⟩ = some (.int .i64 0) := (blk_cell BK135.out 0).trans rfl; have hfq135_0 := blk_frozen BK135.out 0; have hcq135_1 : wc.cell? ⟨gb135, 1, none⟩ = some (.int .i64 0) := (blk_cell BK135.out 1).trans rfl; have hfq135_1 := blk_frozen BK135.out 1; have hcq135_2 : wc.cell? ⟨gb135, 2, none⟩ = some (.int .i64 0) := (blk_cell BK135.out 2).trans rfl; have hfq135_2 := blk_frozen BK135.out 2; have hcq135_3 : wc.cell? ⟨gb135, 3, none⟩ = some (.int .i64 0) := (blk_cell BK135.out 3).trans rfl; have hfq135_3 := blk_frozen BK135.out 3; have hcq136_0 : wc.cell? ⟨gb136, 0, none⟩ = some (.int .i64 (wrap64 (bt a0 a1))) := (blk_cell BK136.out 0).trans rfl; have hfq136_0 := blk_frozen BK136.out 0; have hcq136_1 : wc.cell? ⟨gb136, 1, none⟩ = some (.int .i64 x137001_24) := (blk_cell BK136.out 1).trans rfl; have hfq136_1 := blk_frozen BK136.out 1; have hcq136_2 : wc.cell? ⟨gb136, 2, none⟩ = some (.int .i64 x137002_24) := (blk_cell BK136.out 2).trans rfl; have hfq136_2 := blk_frozen BK136.out 2; have hcq136_3 : wc.cell? ⟨gb136, 3, none⟩ = some (.int .i64 0) := (blk_cell BK136.out 3).trans rfl; have hfq136_3 := blk_frozen BK136.out 3)); have hnb50 := NB136_135.out; have hnc50 := NB135_136.out; have hcz51_0 : wc.cell? ⟨gb136, 0, none⟩ = some (.int .i64 (wrap64 (bt a0 a1))) := (blk_cell BK136.out 0).trans rfl; have hcz51_1 : wc.cell? ⟨gb136, 1, none⟩ = some (.int .i64 x137001_24) := (blk_cell BK136.out 1).trans rfl; have hcz51_2 : wc.cell? ⟨gb136, 2, none⟩ = some (.int .i64 x137002_24) := (blk_cell BK136.out 2).trans rfl; have hcz51_3 : wc.cell? ⟨gb136, 3, none⟩ = some (.int .i64 0) := (blk_cell BK136.out 3).trans rfl; have hfz51_0 := blk_frozen BK136.out 0; have hfz51_1 := blk_frozen BK136.out 1; have hfz51_2 := blk_frozen BK136.out 2; have hfz51_3 := blk_frozen BK136.out 3))
                                  go_meet
                                  case rel => exact ⟨_, (t142), H', ⟨by have := HJ2.out; have := HJ13.out; have := HJ24.out; first | omega | exact Nat.le_refl _⟩, ⟨by (with_reducible repeat (first | refine blk_drewN ?_ _ | refine blk_drew ?_ | refine blk_alloc ?_ _)); refine blk_far ?_ NB135_136.out _; (with_reducible repeat (first | refine blk_drewN ?_ _ | refine blk_drew ?_ | refine blk_alloc ?_ _)); exact BK135.out⟩, ⟨by (with_reducible repeat (first | refine blk_drewN ?_ _ | refine blk_drew ?_ | refine blk_alloc ?_ _)); refine blk_put (cs := #[.int .i64 (wrap64 (bt a0 a1)), .int .i64 x137001_24, .int .i64 x137002_24, .int .i64 0]) ?_ 3 _ rfl; (with_reducible repeat (first | refine blk_drewN ?_ _ | refine blk_drew ?_ | refine blk_alloc ?_ _)); exact BK136.out⟩, ⟨by repeat (first | (with_reducible first | exact HB.out | apply below_alloc | apply pw_below_drewN | apply below_drew1 | refine below_set ?_ GE135.out | refine below_set ?_ GE136.out) | exact HB.out)⟩⟩
                                · rw [if_neg c48] at H
                                  exact absurd H (by simp)
                              · rw [if_neg c47] at H
                                exact absurd H (by simp)
                            · rw [if_neg c46] at H
                              exact absurd H (by simp)
                          · rw [if_neg c44] at H
                            have c44b0 : decide (0 < t141) = false := decide_eq_false c44
                            clear c44
                            (first | rw [c44b0] | (simp only [i64_w, i32_w]; rw [c44b0]) | skip)
                            have H' := Aside0.mk H
                            clear H
                            go_wp2
                            go_meet
                            case rel => exact ⟨_, (0), H', ⟨by have := HJ2.out; have := HJ13.out; have := HJ24.out; first | omega | exact Nat.le_refl _⟩, ⟨by (with_reducible repeat (first | refine blk_drewN ?_ _ | refine blk_drew ?_ | refine blk_alloc ?_ _)); exact BK135.out⟩, ⟨by (with_reducible repeat (first | refine blk_drewN ?_ _ | refine blk_drew ?_ | refine blk_alloc ?_ _)); exact BK136.out⟩, ⟨by repeat (first | (with_reducible first | exact HB.out | apply below_alloc | apply pw_below_drewN | apply below_drew1 | refine below_set ?_ GE135.out | refine below_set ?_ GE136.out) | exact HB.out)⟩⟩
                        case rest =>
                          clear HC43
                          try clear c1
                          try clear p1
                          try clear q1
                          try clear hx1
                          try clear c2
                          try clear p2
                          try clear c3
                          try clear p3
                          try clear q3
                          try clear hx3
                          try clear c4
                          try clear c5
                          try clear c5b0
                          try clear c6
                          try clear p6
                          try clear c8
                          try clear c8b0
                          try clear c8b1
                          try clear c10
                          try clear c10b0
                          try clear c11
                          try clear c11b0
                          try clear p12
                          try clear q12
                          try clear hx12
                          try clear c14
                          try clear c16
                          try clear c18
                          try clear c18b0
                          try clear c18b1
                          try clear c19
                          try clear c20
                          try clear c21
                          try clear c22
                          try clear c26
                          try clear c26b0
                          try clear c26b1
                          try clear c27
                          try clear c28
                          try clear c28b0
                          try clear c29
                          try clear c29b0
                          try clear p30
                          try clear q30
                          try clear hx30
                          try clear c31
                          try clear c33
                          try clear c33b0
                          try clear c33b1
                          try clear c35
                          try clear c35b0
                          try clear c36
                          try clear c36b0
                          try clear p37
                          try clear q37
                          try clear hx37
                          try clear p38
                          try clear q38
                          try clear hx38
                          try clear c44
                          try clear c44b0
                          try clear c46
                          try clear c46b0
                          try clear c46b1
                          try clear c47
                          try clear c47b0
                          try clear c47b1
                          try clear c48
                          try clear c48b0
                          try clear c48b1
                          try clear c50
                          try clear hcz17_0
                          try clear hcz17_1
                          try clear hcz17_2
                          try clear hcz17_3
                          try clear hcz22_0
                          try clear hcz22_1
                          try clear hcz22_2
                          try clear hcz22_3
                          try clear hcz32_0
                          try clear hcz32_1
                          try clear hcz32_2
                          try clear hcz32_3
                          try clear hcz51_0
                          try clear hcz51_1
                          try clear hcz51_2
                          try clear hcz51_3
                          try clear hcz7_0
                          try clear hcz7_1
                          try clear hcz7_2
                          try clear hcz7_3
                          try clear hcz9_0
                          try clear hcz9_1
                          try clear hcz9_2
                          try clear hcz9_3
                          try clear hfz17_0
                          try clear hfz17_1
                          try clear hfz17_2
                          try clear hfz17_3
                          try clear hfz22_0
                          try clear hfz22_1
                          try clear hfz22_2
                          try clear hfz22_3
                          try clear hfz32_0
                          try clear hfz32_1
                          try clear hfz32_2
                          try clear hfz32_3
                          try clear hfz51_0
                          try clear hfz51_1
                          try clear hfz51_2
                          try clear hfz51_3
                          try clear hfz7_0
                          try clear hfz7_1
                          try clear hfz7_2
                          try clear hfz7_3
                          try clear hfz9_0
                          try clear hfz9_1
                          try clear hfz9_2
                          try clear hfz9_3
                          try clear p1
                          try clear p12
                          try clear p2
                          try clear p3
                          try clear p30
                          try clear p37
                          try clear p38
                          try clear p6
                          try clear q1
                          try clear q12
                          try clear q3
                          try clear q30
                          try clear q37
                          try clear q38
                          obtain ⟨kq, x137003_42, HA, HJ42, BK135, BK136, HB⟩ := hcut
                          cases kq with
                          | zero => exact absurd HA.out (by simp [ins_Decode.j3])
                          | succ kj42 =>
                            have H := HA.out
                            clear HA
                            simp only [ins_Decode.j3] at H
                            replace H := Option.bind_eq_some_iff.mp H
                            obtain ⟨t144, A520, H⟩ := H
                            replace H : (if t144 = true then ((ins_isRegister.f x137002_24).bind fun t145 => (if t145 = true then (if t137 = 10 then (if x137003_42 < 0 then (some (0, 0, 0, 0, 0, 9)) else (some ((wrap64 (bt a0 a1)), x137001_24, x137002_24, x137003_42, (wrap64 (a1 + t139)), 0))) else (some ((wrap64 (bt a0 a1)), x137001_24, x137002_24, x137003_42, (wrap64 (a1 + t139)), 0))) else (some (0, 0, 0, 0, 0, 9)))) else (some (0, 0, 0, 0, 0, 9))) = some (r1, r2, r3, r4, r5, r6) := H
                            have A52 := Aside0.mk A520
                            clear A520
                            by_cases c53 : t144 = true
                            · subst c53
                              have H1 : ((ins_isRegister.f x137002_24).bind fun t145 => (if t145 = true then (if t137 = 10 then (if x137003_42 < 0 then (some (0, 0, 0, 0, 0, 9)) else (some ((wrap64 (bt a0 a1)), x137001_24, x137002_24, x137003_42, (wrap64 (a1 + t139)), 0))) else (some ((wrap64 (bt a0 a1)), x137001_24, x137002_24, x137003_42, (wrap64 (a1 + t139)), 0))) else (some (0, 0, 0, 0, 0, 9)))) = some (r1, r2, r3, r4, r5, r6) := by rw [if_pos rfl] at H; exact H
                              clear H
                              have H := H1
                              clear H1
                              replace H := Option.bind_eq_some_iff.mp H
                              obtain ⟨t145, A540, H⟩ := H
                              replace H : (if t145 = true then (if t137 = 10 then (if x137003_42 < 0 then (some (0, 0, 0, 0, 0, 9)) else (some ((wrap64 (bt a0 a1)), x137001_24, x137002_24, x137003_42, (wrap64 (a1 + t139)), 0))) else (some ((wrap64 (bt a0 a1)), x137001_24, x137002_24, x137003_42, (wrap64 (a1 + t139)), 0))) else (some (0, 0, 0, 0, 0, 9))) = some (r1, r2, r3, r4, r5, r6) := H
                              have A54 := Aside0.mk A540
                              clear A540
                              by_cases c55 : t145 = true
                              · subst c55
                                have H1 : (if t137 = 10 then (if x137003_42 < 0 then (some (0, 0, 0, 0, 0, 9)) else (some ((wrap64 (bt a0 a1)), x137001_24, x137002_24, x137003_42, (wrap64 (a1 + t139)), 0))) else (some ((wrap64 (bt a0 a1)), x137001_24, x137002_24, x137003_42, (wrap64 (a1 + t139)), 0))) = some (r1, r2, r3, r4, r5, r6) := by rw [if_pos rfl] at H; exact H
                                clear H
                                have H := H1
                                clear H1
                                by_cases c56 : t137 = 10
                                · rw [if_pos c56] at H
                                  have c56b0 : (t137 == 10) = true := beq_iff_eq.mpr c56
                                  have c56b1 : (t137 != 10) = false := bne_eq_false_iff_eq.mpr c56
                                  clear c56
                                  by_cases c57 : x137003_42 < 0
                                  · rw [if_pos c57] at H
                                    have c57b0 : decide (x137003_42 < 0) = true := decide_eq_true c57
                                    clear c57
                                    simp only [Option.some.injEq, Prod.mk.injEq] at H
                                    obtain ⟨rfl, rfl, rfl, rfl, rfl, rfl⟩ := H
                                    have hnb58 := NB136_135.out
                                    have hnc58 := NB135_136.out
                                    have hcz59_0 : wc.cell? ⟨gb136, 0, none⟩ = some (.int .i64 (wrap64 (bt a0 a1))) := (blk_cell BK136.out 0).trans rfl
                                    have hcz59_1 : wc.cell? ⟨gb136, 1, none⟩ = some (.int .i64 x137001_24) := (blk_cell BK136.out 1).trans rfl
                                    have hcz59_2 : wc.cell? ⟨gb136, 2, none⟩ = some (.int .i64 x137002_24) := (blk_cell BK136.out 2).trans rfl
                                    have hcz59_3 : wc.cell? ⟨gb136, 3, none⟩ = some (.int .i64 x137003_42) := (blk_cell BK136.out 3).trans rfl
                                    have hfz59_0 := blk_frozen BK136.out 0
                                    have hfz59_1 := blk_frozen BK136.out 1
                                    have hfz59_2 := blk_frozen BK136.out 2
                                    have hfz59_3 := blk_frozen BK136.out 3
                                    go_wp2_with (first | ((with_reducible refine gate_callee (f := 21) rfl ?_); refine goesL_ (some 94) rfl rfl Tryd.func21 (by kernel_rfl) rfl #[.int .i64 x137001_24] rfl (by (try simp only [List.map_toArray, List.map_cons, List.map_nil]); first | done | rfl | (simp only [List.length_drop, List.length_take]; rfl)) ?_; (with_reducible refine (ins_isRegister.calls x137001_24 true _ A52.out).mono ?_); rintro e w' ⟨rfl, ⟨nd, rfl⟩⟩; refine ⟨_, rfl, ?_⟩; (try (rw [drewN_self wc]; generalize hq_ : World.drewN wc _ = wc; have n0_ : Aside0 (wc.heap[gb135]? = some (.cells #[.int .i64 0, .int .i64 0, .int .i64 0, .int .i64 0] 23 (0, 0))) := ⟨by rw [← hq_]; exact (by (with_reducible repeat (first | refine blk_drewN ?_ _ | refine blk_drew ?_ | refine blk_alloc ?_ _)); exact BK135.out)⟩; have n1_ : Aside0 (wc.heap[gb136]? = some (.cells #[.int .i64 (wrap64 (bt a0 a1)), .int .i64 x137001_24, .int .i64 x137002_24, .int .i64 x137003_42] 23 (0, 0))) := ⟨by rw [← hq_]; exact (by (with_reducible repeat (first | refine blk_drewN ?_ _ | refine blk_drew ?_ | refine blk_alloc ?_ _)); exact BK136.out)⟩; have n2_ : Aside0 (Below w.heap.size w wc) := ⟨by rw [← hq_]; exact (by repeat (first | (with_reducible first | exact HB.out | apply below_alloc | apply pw_below_drewN | apply below_drew1 | refine below_set ?_ GE135.out | refine below_set ?_ GE136.out) | exact HB.out))⟩; clear BK135 BK136 HB hq_; have BK135 := n0_; have BK136 := n1_; have HB := n2_; clear n0_ n1_ n2_; have hcq135_0 : wc.cell? ⟨gb135, 0, none⟩ = some (.int .i64 0) := (blk_cell BK135.out 0).trans rfl; have hfq135_0 := blk_frozen BK135.out 0; have hcq135_1 : wc.cell? ⟨gb135, 1, none⟩ = some (.int .i64 0) := (blk_cell BK135.out 1).trans rfl; have hfq135_1 := blk_frozen BK135.out 1; have hcq135_2 : wc.cell? ⟨gb135, 2, none⟩ = some (.int .i64 0) := (blk_cell BK135.out 2).trans rfl; have hfq135_2 := blk_frozen BK135.out 2; have hcq135_3 : wc.cell? ⟨gb135, 3, none⟩ = some (.int .i64 0) := (blk_cell BK135.out 3).trans rfl; have hfq135_3 := blk_frozen BK135.out 3; have hcq136_0 : wc.cell? ⟨gb136, 0, none⟩ = some (.int .i64 (wrap64 (bt a0 a1))) := (blk_cell BK136.out 0).trans rfl; have hfq136_0 := blk_frozen BK136.out 0; have hcq136_1 : wc.cell? ⟨gb136, 1, none⟩ = some (.int .i64 x137001_24) := (blk_cell BK136.out 1).trans rfl; have hfq136_1 := blk_frozen BK136.out 1; have hcq136_2 : wc.cell? ⟨gb136, 2, none⟩ = some (.int .i64 x137002_24) := (blk_cell BK136.out 2).trans rfl; have hfq136_2 := blk_frozen BK136.out 2; have hcq136_3 : wc.cell? ⟨gb136, 3, none⟩ = some (.int .i64 x137003_42) := (blk_cell BK136.out 3).trans rfl; have hfq136_3 := blk_frozen BK136.out 3))) | (go_at_call 21; (with_reducible refine (ins_isRegister.calls x137002_24 true _ A54.out).mono ?_); rintro e w' ⟨rfl, ⟨nd, rfl⟩⟩; (try (rw [drewN_self wc]; generalize hq_ : World.drewN wc _ = wc; have n0_ : Aside0 (wc.heap[gb135]? = some (.cells #[.int .i64 0, .int .i64 0, .int .i64 0, .int .i64 0] 23 (0, 0))) := ⟨by rw [← hq_]; exact (by (with_reducible repeat (first | refine blk_drewN ?_ _ | refine blk_drew ?_ | refine blk_alloc ?_ _)); exact BK135.out)⟩; have n1_ : Aside0 (wc.heap[gb136]? = some (.cells #[.int .i64 (wrap64 (bt a0 a1)), .int .i64 x137001_24, .int .i64 x137002_24, .int .i64 x137003_42] 23 (0, 0))) := ⟨by rw [← hq_]; exact (by (with_reducible repeat (first | refine blk_drewN ?_ _ | refine blk_drew ?_ | refine blk_alloc ?_ _)); exact BK136.out)⟩; have n2_ : Aside0 (Below w.heap.size w wc) := ⟨by rw [← hq_]; exact (by repeat (first | (with_reducible first | exact HB.out | apply below_alloc | apply pw_below_drewN | apply below_drew1 | refine below_set ?_ GE135.out | refine below_set ?_ GE136.out) | exact HB.out))⟩; clear BK135 BK136 HB hq_; have BK135 := n0_; have BK136 := n1_; have HB := n2_; clear n0_ n1_ n2_; have hcq135_0 : wc.cell? ⟨gb135, 0, none⟩ = some (.int .i64 0) := (blk_cell BK135.out 0).trans rfl; have hfq135_0 := blk_frozen BK135.out 0; have hcq135_1 : wc.cell? ⟨gb135, 1, none⟩ = some (.int .i64 0) := (blk_cell BK135.out 1).trans rfl; have hfq135_1 := blk_frozen BK135.out 1; have hcq135_2 : wc.cell? ⟨gb135, 2, none⟩ = some (.int .i64 0) := (blk_cell BK135.out 2).trans rfl; have hfq135_2 := blk_frozen BK135.out 2; have hcq135_3 : wc.cell? ⟨gb135, 3, none⟩ = some (.int .i64 0) := (blk_cell BK135.out 3).trans rfl; have hfq135_3 := blk_frozen BK135.out 3; have hcq136_0 : wc.cell? ⟨gb136, 0, none⟩ = some (.int .i64 (wrap64 (bt a0 a1))) := (blk_cell BK136.out 0).trans rfl; have hfq136_0 := blk_frozen BK136.out 0; have hcq136_1 : wc.cell? ⟨gb136, 1, none⟩ = some (.int .i64 x137001_24) := (blk_cell BK136.out 1).trans rfl; have hfq136_1 := blk_frozen BK136.out 1; have hcq136_2 : wc.cell? ⟨gb136, 2, none⟩ = some (.int .i64 x137002_24) := (blk_cell BK136.out 2).trans rfl; have hfq136_2 := blk_frozen BK136.out 2; have hcq136_3 : wc.cell? ⟨gb136, 3, none⟩ = some (.int .i64 x137003_42) := (blk_cell BK136.out 3).trans rfl; have hfq136_3 := blk_frozen BK136.out 3)); have hcz60_0 : wc.cell? ⟨gb135, 0, none⟩ = some (.int .i64 0) := (blk_cell BK135.out 0).trans rfl; have hcz60_1 : wc.cell? ⟨gb135, 1, none⟩ = some (.int .i64 0) := (blk_cell BK135.out 1).trans rfl; have hcz60_2 : wc.cell? ⟨gb135, 2, none⟩ = some (.int .i64 0) := (blk_cell BK135.out 2).trans rfl; have hcz60_3 : wc.cell? ⟨gb135, 3, none⟩ = some (.int .i64 0) := (blk_cell BK135.out 3).trans rfl; have hfz60_0 := blk_frozen BK135.out 0; have hfz60_1 := blk_frozen BK135.out 1; have hfz60_2 := blk_frozen BK135.out 2; have hfz60_3 := blk_frozen BK135.out 3))
                                    refine bodyPost_ret (results_ctt rfl _ _ gb135 23 #[.int .i64 0, .int .i64 0, .int .i64 0, .int .i64 0] (0, 0) _ rfl (by (with_reducible repeat (first | refine blk_drewN ?_ _ | refine blk_drew ?_ | refine blk_alloc ?_ _)); refine blk_put (cs := #[.int .i64 0, .int .i64 0, .int .i64 0, .int .i64 0]) ?_ 3 _ rfl; (with_reducible repeat (first | refine blk_drewN ?_ _ | refine blk_drew ?_ | refine blk_alloc ?_ _)); refine blk_put (cs := #[.int .i64 0, .int .i64 0, .int .i64 0, .int .i64 0]) ?_ 2 _ rfl; (with_reducible repeat (first | refine blk_drewN ?_ _ | refine blk_drew ?_ | refine blk_alloc ?_ _)); refine blk_put (cs := #[.int .i64 0, .int .i64 0, .int .i64 0, .int .i64 0]) ?_ 1 _ rfl; (with_reducible repeat (first | refine blk_drewN ?_ _ | refine blk_drew ?_ | refine blk_alloc ?_ _)); refine blk_put (cs := #[.int .i64 0, .int .i64 0, .int .i64 0, .int .i64 0]) ?_ 0 _ rfl; (with_reducible repeat (first | refine blk_drewN ?_ _ | refine blk_drew ?_ | refine blk_alloc ?_ _)); exact BK135.out) Tryd.underlying23 rfl (by kernel_rfl)) rfl ?_
                                    exact ⟨by first | rfl | (simp [errW_none, errW_some] <;> rfl) | (simp [*, errW_none, errW_some] <;> rfl), by repeat (first | (with_reducible first | exact HB.out | apply below_alloc | apply pw_below_drewN | apply below_drew1 | refine below_set ?_ GE135.out | refine below_set ?_ GE136.out) | exact HB.out)⟩
                                  · rw [if_neg c57] at H
                                    have c57b0 : decide (x137003_42 < 0) = false := decide_eq_false c57
                                    clear c57
                                    simp only [Option.some.injEq, Prod.mk.injEq] at H
                                    obtain ⟨rfl, rfl, rfl, rfl, rfl, rfl⟩ := H
                                    have hnb61 := NB136_135.out
                                    have hnc61 := NB135_136.out
                                    have hcz62_0 : wc.cell? ⟨gb136, 0, none⟩ = some (.int .i64 (wrap64 (bt a0 a1))) := (blk_cell BK136.out 0).trans rfl
                                    have hcz62_1 : wc.cell? ⟨gb136, 1, none⟩ = some (.int .i64 x137001_24) := (blk_cell BK136.out 1).trans rfl
                                    have hcz62_2 : wc.cell? ⟨gb136, 2, none⟩ = some (.int .i64 x137002_24) := (blk_cell BK136.out 2).trans rfl
                                    have hcz62_3 : wc.cell? ⟨gb136, 3, none⟩ = some (.int .i64 x137003_42) := (blk_cell BK136.out 3).trans rfl
                                    have hfz62_0 := blk_frozen BK136.out 0
                                    have hfz62_1 := blk_frozen BK136.out 1
                                    have hfz62_2 := blk_frozen BK136.out 2
                                    have hfz62_3 := blk_frozen BK136.out 3
                                    go_wp2_with (first | ((with_reducible refine gate_callee (f := 21) rfl ?_); refine goesL_ (some 94) rfl rfl Tryd.func21 (by kernel_rfl) rfl #[.int .i64 x137001_24] rfl (by (try simp only [List.map_toArray, List.map_cons, List.map_nil]); first | done | rfl | (simp only [List.length_drop, List.length_take]; rfl)) ?_; (with_reducible refine (ins_isRegister.calls x137001_24 true _ A52.out).mono ?_); rintro e w' ⟨rfl, ⟨nd, rfl⟩⟩; refine ⟨_, rfl, ?_⟩; (try (rw [drewN_self wc]; generalize hq_ : World.drewN wc _ = wc; have n0_ : Aside0 (wc.heap[gb135]? = some (.cells #[.int .i64 0, .int .i64 0, .int .i64 0, .int .i64 0] 23 (0, 0))) := ⟨by rw [← hq_]; exact (by (with_reducible repeat (first | refine blk_drewN ?_ _ | refine blk_drew ?_ | refine blk_alloc ?_ _)); exact BK135.out)⟩; have n1_ : Aside0 (wc.heap[gb136]? = some (.cells #[.int .i64 (wrap64 (bt a0 a1)), .int .i64 x137001_24, .int .i64 x137002_24, .int .i64 x137003_42] 23 (0, 0))) := ⟨by rw [← hq_]; exact (by (with_reducible repeat (first | refine blk_drewN ?_ _ | refine blk_drew ?_ | refine blk_alloc ?_ _)); exact BK136.out)⟩; have n2_ : Aside0 (Below w.heap.size w wc) := ⟨by rw [← hq_]; exact (by repeat (first | (with_reducible first | exact HB.out | apply below_alloc | apply pw_below_drewN | apply below_drew1 | refine below_set ?_ GE135.out | refine below_set ?_ GE136.out) | exact HB.out))⟩; clear BK135 BK136 HB hq_; have BK135 := n0_; have BK136 := n1_; have HB := n2_; clear n0_ n1_ n2_; have hcq135_0 : wc.cell? ⟨gb135, 0, none⟩ = some (.int .i64 0) := (blk_cell BK135.out 0).trans rfl; have hfq135_0 := blk_frozen BK135.out 0; have hcq135_1 : wc.cell? ⟨gb135, 1, none⟩ = some (.int .i64 0) := (blk_cell BK135.out 1).trans rfl; have hfq135_1 := blk_frozen BK135.out 1; have hcq135_2 : wc.cell? ⟨gb135, 2, none⟩ = some (.int .i64 0) := (blk_cell BK135.out 2).trans rfl; have hfq135_2 := blk_frozen BK135.out 2; have hcq135_3 : wc.cell? ⟨gb135, 3, none⟩ = some (.int .i64 0) := (blk_cell BK135.out 3).trans rfl; have hfq135_3 := blk_frozen BK135.out 3; have hcq136_0 : wc.cell? ⟨gb136, 0, none⟩ = some (.int .i64 (wrap64 (bt a0 a1))) := (blk_cell BK136.out 0).trans rfl; have hfq136_0 := blk_frozen BK136.out 0; have hcq136_1 : wc.cell? ⟨gb136, 1, none⟩ = some (.int .i64 x137001_24) := (blk_cell BK136.out 1).trans rfl; have hfq136_1 := blk_frozen BK136.out 1; have hcq136_2 : wc.cell? ⟨gb136, 2, none⟩ = some (.int .i64 x137002_24) := (blk_cell BK136.out 2).trans rfl; have hfq136_2 := blk_frozen BK136.out 2; have hcq136_3 : wc.cell? ⟨gb136, 3, none⟩ = some (.int .i64 x137003_42) := (blk_cell BK136.out 3).trans rfl; have hfq136_3 := blk_frozen BK136.out 3))) | (go_at_call 21; (with_reducible refine (ins_isRegister.calls x137002_24 true _ A54.out).mono ?_); rintro e w' ⟨rfl, ⟨nd, rfl⟩⟩; (try (rw [drewN_self wc]; generalize hq_ : World.drewN wc _ = wc; have n0_ : Aside0 (wc.heap[gb135]? = some (.cells #[.int .i64 0, .int .i64 0, .int .i64 0, .int .i64 0] 23 (0, 0))) := ⟨by rw [← hq_]; exact (by (with_reducible repeat (first | refine blk_drewN ?_ _ | refine blk_drew ?_ | refine blk_alloc ?_ _)); exact BK135.out)⟩; have n1_ : Aside0 (wc.heap[gb136]? = some (.cells #[.int .i64 (wrap64 (bt a0 a1)), .int .i64 x137001_24, .int .i64 x137002_24, .int .i64 x137003_42] 23 (0, 0))) := ⟨by rw [← hq_]; exact (by (with_reducible repeat (first | refine blk_drewN ?_ _ | refine blk_drew ?_ | refine blk_alloc ?_ _)); exact BK136.out)⟩; have n2_ : Aside0 (Below w.heap.size w wc) := ⟨by rw [← hq_]; exact (by repeat (first | (with_reducible first | exact HB.out | apply below_alloc | apply pw_below_drewN | apply below_drew1 | refine below_set ?_ GE135.out | refine below_set ?_ GE136.out) | exact HB.out))⟩; clear BK135 BK136 HB hq_; have BK135 := n0_; have BK136 := n1_; have HB := n2_; clear n0_ n1_ n2_; have hcq135_0 : wc.cell? ⟨gb135, 0, none⟩ = some (.int .i64 0) := (blk_cell BK135.out 0).trans rfl; have hfq135_0 := blk_frozen BK135.out 0; have hcq135_1 : wc.cell? ⟨gb135, 1, none⟩ = some (.int .i64 0) := (blk_cell BK135.out 1).trans rfl; have hfq135_1 := blk_frozen BK135.out 1; have hcq135_2 : wc.cell? ⟨gb135, 2, none⟩ = some (.int .i64 0) := (blk_cell BK135.out 2).trans rfl; have hfq135_2 := blk_frozen BK135.out 2; have hcq135_3 : wc.cell? ⟨gb135, 3, none⟩ = some (.int .i64 0) := (blk_cell BK135.out 3).trans rfl; have hfq135_3 := blk_frozen BK135.out 3; have hcq136_0 : wc.cell? ⟨gb136, 0, none⟩ = some (.int .i64 (wrap64 (bt a0 a1))) := (blk_cell BK136.out 0).trans rfl; have hfq136_0 := blk_frozen BK136.out 0; have hcq136_1 : wc.cell? ⟨gb136, 1, none⟩ = some (.int .i64 x137001_24) := (blk_cell BK136.out 1).trans rfl; have hfq136_1 := blk_frozen BK136.out 1; have hcq136_2 : wc.cell? ⟨gb136, 2, none⟩ = some (.int .i64 x137002_24) := (blk_cell BK136.out 2).trans rfl; have hfq136_2 := blk_frozen BK136.out 2; have hcq136_3 : wc.cell? ⟨gb136, 3, none⟩ = some (.int .i64 x137003_42) := (blk_cell BK136.out 3).trans rfl; have hfq136_3 := blk_frozen BK136.out 3)); have hcz63_0 : wc.cell? ⟨gb135, 0, none⟩ = some (.int .i64 0) := (blk_cell BK135.out 0).trans rfl; have hcz63_1 : wc.cell? ⟨gb135, 1, none⟩ = some (.int .i64 0) := (blk_cell BK135.out 1).trans rfl; have hcz63_2 : wc.cell? ⟨gb135, 2, none⟩ = some (.int .i64 0) := (blk_cell BK135.out 2).trans rfl; have hcz63_3 : wc.cell? ⟨gb135, 3, none⟩ = some (.int .i64 0) := (blk_cell BK135.out 3).trans rfl; have hfz63_0 := blk_frozen BK135.out 0; have hfz63_1 := blk_frozen BK135.out 1; have hfz63_2 := blk_frozen BK135.out 2; have hfz63_3 := blk_frozen BK135.out 3))
                                    refine bodyPost_ret (results_ctt rfl _ _ gb135 23 #[.int .i64 (wrap64 (bt a0 a1)), .int .i64 x137001_24, .int .i64 x137002_24, .int .i64 x137003_42] (0, 0) _ rfl (by (with_reducible repeat (first | refine blk_drewN ?_ _ | refine blk_drew ?_ | refine blk_alloc ?_ _)); refine blk_put (cs := #[.int .i64 (wrap64 (bt a0 a1)), .int .i64 x137001_24, .int .i64 x137002_24, .int .i64 0]) ?_ 3 _ rfl; (with_reducible repeat (first | refine blk_drewN ?_ _ | refine blk_drew ?_ | refine blk_alloc ?_ _)); refine blk_put (cs := #[.int .i64 (wrap64 (bt a0 a1)), .int .i64 x137001_24, .int .i64 0, .int .i64 0]) ?_ 2 _ rfl; (with_reducible repeat (first | refine blk_drewN ?_ _ | refine blk_drew ?_ | refine blk_alloc ?_ _)); refine blk_put (cs := #[.int .i64 (wrap64 (bt a0 a1)), .int .i64 0, .int .i64 0, .int .i64 0]) ?_ 1 _ rfl; (with_reducible repeat (first | refine blk_drewN ?_ _ | refine blk_drew ?_ | refine blk_alloc ?_ _)); refine blk_put (cs := #[.int .i64 0, .int .i64 0, .int .i64 0, .int .i64 0]) ?_ 0 _ rfl; (with_reducible repeat (first | refine blk_drewN ?_ _ | refine blk_drew ?_ | refine blk_alloc ?_ _)); exact BK135.out) Tryd.underlying23 rfl (by kernel_rfl)) rfl ?_
                                    exact ⟨by first | rfl | (simp [errW_none, errW_some] <;> rfl) | (simp [*, errW_none, errW_some] <;> rfl), by repeat (first | (with_reducible first | exact HB.out | apply below_alloc | apply pw_below_drewN | apply below_drew1 | refine below_set ?_ GE135.out | refine below_set ?_ GE136.out) | exact HB.out)⟩
                                · rw [if_neg c56] at H
                                  have c56b0 : (t137 == 10) = false := beq_eq_false_iff_ne.mpr c56
                                  have c56b1 : (t137 != 10) = true := bne_iff_ne.mpr c56
                                  simp only [Option.some.injEq, Prod.mk.injEq] at H
                                  obtain ⟨rfl, rfl, rfl, rfl, rfl, rfl⟩ := H
                                  have hnb64 := NB136_135.out
                                  have hnc64 := NB135_136.out
                                  have hcz65_0 : wc.cell? ⟨gb136, 0, none⟩ = some (.int .i64 (wrap64 (bt a0 a1))) := (blk_cell BK136.out 0).trans rfl
                                  have hcz65_1 : wc.cell? ⟨gb136, 1, none⟩ = some (.int .i64 x137001_24) := (blk_cell BK136.out 1).trans rfl
                                  have hcz65_2 : wc.cell? ⟨gb136, 2, none⟩ = some (.int .i64 x137002_24) := (blk_cell BK136.out 2).trans rfl
                                  have hcz65_3 : wc.cell? ⟨gb136, 3, none⟩ = some (.int .i64 x137003_42) := (blk_cell BK136.out 3).trans rfl
                                  have hfz65_0 := blk_frozen BK136.out 0
                                  have hfz65_1 := blk_frozen BK136.out 1
                                  have hfz65_2 := blk_frozen BK136.out 2
                                  have hfz65_3 := blk_frozen BK136.out 3
                                  go_wp2_with (first | ((with_reducible refine gate_callee (f := 21) rfl ?_); refine goesL_ (some 94) rfl rfl Tryd.func21 (by kernel_rfl) rfl #[.int .i64 x137001_24] rfl (by (try simp only [List.map_toArray, List.map_cons, List.map_nil]); first | done | rfl | (simp only [List.length_drop, List.length_take]; rfl)) ?_; (with_reducible refine (ins_isRegister.calls x137001_24 true _ A52.out).mono ?_); rintro e w' ⟨rfl, ⟨nd, rfl⟩⟩; refine ⟨_, rfl, ?_⟩; (try (rw [drewN_self wc]; generalize hq_ : World.drewN wc _ = wc; have n0_ : Aside0 (wc.heap[gb135]? = some (.cells #[.int .i64 0, .int .i64 0, .int .i64 0, .int .i64 0] 23 (0, 0))) := ⟨by rw [← hq_]; exact (by (with_reducible repeat (first | refine blk_drewN ?_ _ | refine blk_drew ?_ | refine blk_alloc ?_ _)); exact BK135.out)⟩; have n1_ : Aside0 (wc.heap[gb136]? = some (.cells #[.int .i64 (wrap64 (bt a0 a1)), .int .i64 x137001_24, .int .i64 x137002_24, .int .i64 x137003_42] 23 (0, 0))) := ⟨by rw [← hq_]; exact (by (with_reducible repeat (first | refine blk_drewN ?_ _ | refine blk_drew ?_ | refine blk_alloc ?_ _)); exact BK136.out)⟩; have n2_ : Aside0 (Below w.heap.size w wc) := ⟨by rw [← hq_]; exact (by repeat (first | (with_reducible first | exact HB.out | apply below_alloc | apply pw_below_drewN | apply below_drew1 | refine below_set ?_ GE135.out | refine below_set ?_ GE136.out) | exact HB.out))⟩; clear BK135 BK136 HB hq_; have BK135 := n0_; have BK136 := n1_; have HB := n2_; clear n0_ n1_ n2_; have hcq135_0 : wc.cell? ⟨gb135, 0, none⟩ = some (.int .i64 0) := (blk_cell BK135.out 0).trans rfl; have hfq135_0 := blk_frozen BK135.out 0; have hcq135_1 : wc.cell? ⟨gb135, 1, none⟩ = some (.int .i64 0) := (blk_cell BK135.out 1).trans rfl; have hfq135_1 := blk_frozen BK135.out 1; have hcq135_2 : wc.cell? ⟨gb135, 2, none⟩ = some (.int .i64 0) := (blk_cell BK135.out 2).trans rfl; have hfq135_2 := blk_frozen BK135.out 2; have hcq135_3 : wc.cell? ⟨gb135, 3, none⟩ = some (.int .i64 0) := (blk_cell BK135.out 3).trans rfl; have hfq135_3 := blk_frozen BK135.out 3; have hcq136_0 : wc.cell? ⟨gb136, 0, none⟩ = some (.int .i64 (wrap64 (bt a0 a1))) := (blk_cell BK136.out 0).trans rfl; have hfq136_0 := blk_frozen BK136.out 0; have hcq136_1 : wc.cell? ⟨gb136, 1, none⟩ = some (.int .i64 x137001_24) := (blk_cell BK136.out 1).trans rfl; have hfq136_1 := blk_frozen BK136.out 1; have hcq136_2 : wc.cell? ⟨gb136, 2, none⟩ = some (.int .i64 x137002_24) := (blk_cell BK136.out 2).trans rfl; have hfq136_2 := blk_frozen BK136.out 2; have hcq136_3 : wc.cell? ⟨gb136, 3, none⟩ = some (.int .i64 x137003_42) := (blk_cell BK136.out 3).trans rfl; have hfq136_3 := blk_frozen BK136.out 3))) | (go_at_call 21; (with_reducible refine (ins_isRegister.calls x137002_24 true _ A54.out).mono ?_); rintro e w' ⟨rfl, ⟨nd, rfl⟩⟩; (try (rw [drewN_self wc]; generalize hq_ : World.drewN wc _ = wc; have n0_ : Aside0 (wc.heap[gb135]? = some (.cells #[.int .i64 0, .int .i64 0, .int .i64 0, .int .i64 0] 23 (0, 0))) := ⟨by rw [← hq_]; exact (by (with_reducible repeat (first | refine blk_drewN ?_ _ | refine blk_drew ?_ | refine blk_alloc ?_ _)); exact BK135.out)⟩; have n1_ : Aside0 (wc.heap[gb136]? = some (.cells #[.int .i64 (wrap64 (bt a0 a1)), .int .i64 x137001_24, .int .i64 x137002_24, .int .i64 x137003_42] 23 (0, 0))) := ⟨by rw [← hq_]; exact (by (with_reducible repeat (first | refine blk_drewN ?_ _ | refine blk_drew ?_ | refine blk_alloc ?_ _)); exact BK136.out)⟩; have n2_ : Aside0 (Below w.heap.size w wc) := ⟨by rw [← hq_]; exact (by repeat (first | (with_reducible first | exact HB.out | apply below_alloc | apply pw_below_drewN | apply below_drew1 | refine below_set ?_ GE135.out | refine below_set ?_ GE136.out) | exact HB.out))⟩; clear BK135 BK136 HB hq_; have BK135 := n0_; have BK136 := n1_; have HB := n2_; clear n0_ n1_ n2_; have hcq135_0 : wc.cell? ⟨gb135, 0, none⟩ = some (.int .i64 0) := (blk_cell BK135.out 0).trans rfl; have hfq135_0 := blk_frozen BK135.out 0; have hcq135_1 : wc.cell? ⟨gb135, 1, none⟩ = some (.int .i64 0) := (blk_cell BK135.out 1).trans rfl; have hfq135_1 := blk_frozen BK135.out 1; have hcq135_2 : wc.cell? ⟨gb135, 2, none⟩ = some (.int .i64 0) := (blk_cell BK135.out 2).trans rfl; have hfq135_2 := blk_frozen BK135.out 2; have hcq135_3 : wc.cell? ⟨gb135, 3, none⟩ = some (.int .i64 0) := (blk_cell BK135.out 3).trans rfl; have hfq135_3 := blk_frozen BK135.out 3; have hcq136_0 : wc.cell? ⟨gb136, 0, none⟩ = some (.int .i64 (wrap64 (bt a0 a1))) := (blk_cell BK136.out 0).trans rfl; have hfq136_0 := blk_frozen BK136.out 0; have hcq136_1 : wc.cell? ⟨gb136, 1, none⟩ = some (.int .i64 x137001_24) := (blk_cell BK136.out 1).trans rfl; have hfq136_1 := blk_frozen BK136.out 1; have hcq136_2 : wc.cell? ⟨gb136, 2, none⟩ = some (.int .i64 x137002_24) := (blk_cell BK136.out 2).trans rfl; have hfq136_2 := blk_frozen BK136.out 2; have hcq136_3 : wc.cell? ⟨gb136, 3, none⟩ = some (.int .i64 x137003_42) := (blk_cell BK136.out 3).trans rfl; have hfq136_3 := blk_frozen BK136.out 3)); have hcz66_0 : wc.cell? ⟨gb135, 0, none⟩ = some (.int .i64 0) := (blk_cell BK135.out 0).trans rfl; have hcz66_1 : wc.cell? ⟨gb135, 1, none⟩ = some (.int .i64 0) := (blk_cell BK135.out 1).trans rfl; have hcz66_2 : wc.cell? ⟨gb135, 2, none⟩ = some (.int .i64 0) := (blk_cell BK135.out 2).trans rfl; have hcz66_3 : wc.cell? ⟨gb135, 3, none⟩ = some (.int .i64 0) := (blk_cell BK135.out 3).trans rfl; have hfz66_0 := blk_frozen BK135.out 0; have hfz66_1 := blk_frozen BK135.out 1; have hfz66_2 := blk_frozen BK135.out 2; have hfz66_3 := blk_frozen BK135.out 3))
                                  refine bodyPost_ret (results_ctt rfl _ _ gb135 23 #[.int .i64 (wrap64 (bt a0 a1)), .int .i64 x137001_24, .int .i64 x137002_24, .int .i64 x137003_42] (0, 0) _ rfl (by (with_reducible repeat (first | refine blk_drewN ?_ _ | refine blk_drew ?_ | refine blk_alloc ?_ _)); refine blk_put (cs := #[.int .i64 (wrap64 (bt a0 a1)), .int .i64 x137001_24, .int .i64 x137002_24, .int .i64 0]) ?_ 3 _ rfl; (with_reducible repeat (first | refine blk_drewN ?_ _ | refine blk_drew ?_ | refine blk_alloc ?_ _)); refine blk_put (cs := #[.int .i64 (wrap64 (bt a0 a1)), .int .i64 x137001_24, .int .i64 0, .int .i64 0]) ?_ 2 _ rfl; (with_reducible repeat (first | refine blk_drewN ?_ _ | refine blk_drew ?_ | refine blk_alloc ?_ _)); refine blk_put (cs := #[.int .i64 (wrap64 (bt a0 a1)), .int .i64 0, .int .i64 0, .int .i64 0]) ?_ 1 _ rfl; (with_reducible repeat (first | refine blk_drewN ?_ _ | refine blk_drew ?_ | refine blk_alloc ?_ _)); refine blk_put (cs := #[.int .i64 0, .int .i64 0, .int .i64 0, .int .i64 0]) ?_ 0 _ rfl; (with_reducible repeat (first | refine blk_drewN ?_ _ | refine blk_drew ?_ | refine blk_alloc ?_ _)); exact BK135.out) Tryd.underlying23 rfl (by kernel_rfl)) rfl ?_
                                  exact ⟨by first | rfl | (simp [errW_none, errW_some] <;> rfl) | (simp [*, errW_none, errW_some] <;> rfl), by repeat (first | (with_reducible first | exact HB.out | apply below_alloc | apply pw_below_drewN | apply below_drew1 | refine below_set ?_ GE135.out | refine below_set ?_ GE136.out) | exact HB.out)⟩
                              · replace c55 := Bool.eq_false_iff.mpr c55
                                subst c55
                                have H1 : (some (0, 0, 0, 0, 0, 9)) = some (r1, r2, r3, r4, r5, r6) := by rw [if_neg (show ¬ (false = true) by decide)] at H; exact H
                                clear H
                                have H := H1
                                clear H1
                                simp only [Option.some.injEq, Prod.mk.injEq] at H
                                obtain ⟨rfl, rfl, rfl, rfl, rfl, rfl⟩ := H
                                have hnb67 := NB136_135.out
                                have hnc67 := NB135_136.out
                                have hcz68_0 : wc.cell? ⟨gb136, 0, none⟩ = some (.int .i64 (wrap64 (bt a0 a1))) := (blk_cell BK136.out 0).trans rfl
                                have hcz68_1 : wc.cell? ⟨gb136, 1, none⟩ = some (.int .i64 x137001_24) := (blk_cell BK136.out 1).trans rfl
                                have hcz68_2 : wc.cell? ⟨gb136, 2, none⟩ = some (.int .i64 x137002_24) := (blk_cell BK136.out 2).trans rfl
                                have hcz68_3 : wc.cell? ⟨gb136, 3, none⟩ = some (.int .i64 x137003_42) := (blk_cell BK136.out 3).trans rfl
                                have hfz68_0 := blk_frozen BK136.out 0
                                have hfz68_1 := blk_frozen BK136.out 1
                                have hfz68_2 := blk_frozen BK136.out 2
                                have hfz68_3 := blk_frozen BK136.out 3
                                go_wp2_with (first | ((with_reducible refine gate_callee (f := 21) rfl ?_); refine goesL_ (some 94) rfl rfl Tryd.func21 (by kernel_rfl) rfl #[.int .i64 x137001_24] rfl (by (try simp only [List.map_toArray, List.map_cons, List.map_nil]); first | done | rfl | (simp only [List.length_drop, List.length_take]; rfl)) ?_; (with_reducible refine (ins_isRegister.calls x137001_24 true _ A52.out).mono ?_); rintro e w' ⟨rfl, ⟨nd, rfl⟩⟩; refine ⟨_, rfl, ?_⟩; (try (rw [drewN_self wc]; generalize hq_ : World.drewN wc _ = wc; have n0_ : Aside0 (wc.heap[gb135]? = some (.cells #[.int .i64 0, .int .i64 0, .int .i64 0, .int .i64 0] 23 (0, 0))) := ⟨by rw [← hq_]; exact (by (with_reducible repeat (first | refine blk_drewN ?_ _ | refine blk_drew ?_ | refine blk_alloc ?_ _)); exact BK135.out)⟩; have n1_ : Aside0 (wc.heap[gb136]? = some (.cells #[.int .i64 (wrap64 (bt a0 a1)), .int .i64 x137001_24, .int .i64 x137002_24, .int .i64 x137003_42] 23 (0, 0))) := ⟨by rw [← hq_]; exact (by (with_reducible repeat (first | refine blk_drewN ?_ _ | refine blk_drew ?_ | refine blk_alloc ?_ _)); exact BK136.out)⟩; have n2_ : Aside0 (Below w.heap.size w wc) := ⟨by rw [← hq_]; exact (by repeat (first | (with_reducible first | exact HB.out | apply below_alloc | apply pw_below_drewN | apply below_drew1 | refine below_set ?_ GE135.out | refine below_set ?_ GE136.out) | exact HB.out))⟩; clear BK135 BK136 HB hq_; have BK135 := n0_; have BK136 := n1_; have HB := n2_; clear n0_ n1_ n2_; have hcq135_0 : wc.cell? ⟨gb135, 0, none⟩ = some (.int .i64 0) := (blk_cell BK135.out 0).trans rfl; have hfq135_0 := blk_frozen BK135.out 0; have hcq135_1 : wc.cell? ⟨gb135, 1, none⟩ = some (.int .i64 0) := (blk_cell BK135.out 1).trans rfl; have hfq135_1 := blk_frozen BK135.out 1; have hcq135_2 : wc.cell? ⟨gb135, 2, none⟩ = some (.int .i64 0) := (blk_cell BK135.out 2).trans rfl; have hfq135_2 := blk_frozen BK135.out 2; have hcq135_3 : wc.cell? ⟨gb135, 3, none⟩ = some (.int .i64 0) := (blk_cell BK135.out 3).trans rfl; have hfq135_3 := blk_frozen BK135.out 3; have hcq136_0 : wc.cell? ⟨gb136, 0, none⟩ = some (.int .i64 (wrap64 (bt a0 a1))) := (blk_cell BK136.out 0).trans rfl; have hfq136_0 := blk_frozen BK136.out 0; have hcq136_1 : wc.cell? ⟨gb136, 1, none⟩ = some (.int .i64 x137001_24) := (blk_cell BK136.out 1).trans rfl; have hfq136_1 := blk_frozen BK136.out 1; have hcq136_2 : wc.cell? ⟨gb136, 2, none⟩ = some (.int .i64 x137002_24) := (blk_cell BK136.out 2).trans rfl; have hfq136_2 := blk_frozen BK136.out 2; have hcq136_3 : wc.cell? ⟨gb136, 3, none⟩ = some (.int .i64 x137003_42) := (blk_cell BK136.out 3).trans rfl; have hfq136_3 := blk_frozen BK136.out 3))) | (go_at_call 21; (with_reducible refine (ins_isRegister.calls x137002_24 false _ A54.out).mono ?_); rintro e w' ⟨rfl, ⟨nd, rfl⟩⟩; (try (rw [drewN_self wc]; generalize hq_ : World.drewN wc _ = wc; have n0_ : Aside0 (wc.heap[gb135]? = some (.cells #[.int .i64 0, .int .i64 0, .int .i64 0, .int .i64 0] 23 (0, 0))) := ⟨by rw [← hq_]; exact (by (with_reducible repeat (first | refine blk_drewN ?_ _ | refine blk_drew ?_ | refine blk_alloc ?_ _)); exact BK135.out)⟩; have n1_ : Aside0 (wc.heap[gb136]? = some (.cells #[.int .i64 (wrap64 (bt a0 a1)), .int .i64 x137001_24, .int .i64 x137002_24, .int .i64 x137003_42] 23 (0, 0))) := ⟨by rw [← hq_]; exact (by (with_reducible repeat (first | refine blk_drewN ?_ _ | refine blk_drew ?_ | refine blk_alloc ?_ _)); exact BK136.out)⟩; have n2_ : Aside0 (Below w.heap.size w wc) := ⟨by rw [← hq_]; exact (by repeat (first | (with_reducible first | exact HB.out | apply below_alloc | apply pw_below_drewN | apply below_drew1 | refine below_set ?_ GE135.out | refine below_set ?_ GE136.out) | exact HB.out))⟩; clear BK135 BK136 HB hq_; have BK135 := n0_; have BK136 := n1_; have HB := n2_; clear n0_ n1_ n2_; have hcq135_0 : wc.cell? ⟨gb135, 0, none⟩ = some (.int .i64 0) := (blk_cell BK135.out 0).trans rfl; have hfq135_0 := blk_frozen BK135.out 0; have hcq135_1 : wc.cell? ⟨gb135, 1, none⟩ = some (.int .i64 0) := (blk_cell BK135.out 1).trans rfl; have hfq135_1 := blk_frozen BK135.out 1; have hcq135_2 : wc.cell? ⟨gb135, 2, none⟩ = some (.int .i64 0) := (blk_cell BK135.out 2).trans rfl; have hfq135_2 := blk_frozen BK135.out 2; have hcq135_3 : wc.cell? ⟨gb135, 3, none⟩ = some (.int .i64 0) := (blk_cell BK135.out 3).trans rfl; have hfq135_3 := blk_frozen BK135.out 3; have hcq136_0 : wc.cell? ⟨gb136, 0, none⟩ = some (.int .i64 (wrap64 (bt a0 a1))) := (blk_cell BK136.out 0).trans rfl; have hfq136_0 := blk_frozen BK136.out 0; have hcq136_1 : wc.cell? ⟨gb136, 1, none⟩ = some (.int .i64 x137001_24) := (blk_cell BK136.out 1).trans rfl; have hfq136_1 := blk_frozen BK136.out 1; have hcq136_2 : wc.cell? ⟨gb136, 2, none⟩ = some (.int .i64 x137002_24) := (blk_cell BK136.out 2).trans rfl; have hfq136_2 := blk_frozen BK136.out 2; have hcq136_3 : wc.cell? ⟨gb136, 3, none⟩ = some (.int .i64 x137003_42) := (blk_cell BK136.out 3).trans rfl; have hfq136_3 := blk_frozen BK136.out 3)); have hcz69_0 : wc.cell? ⟨gb135, 0, none⟩ = some (.int .i64 0) := (blk_cell BK135.out 0).trans rfl; have hcz69_1 : wc.cell? ⟨gb135, 1, none⟩ = some (.int .i64 0) := (blk_cell BK135.out 1).trans rfl; have hcz69_2 : wc.cell? ⟨gb135, 2, none⟩ = some (.int .i64 0) := (blk_cell BK135.out 2).trans rfl; have hcz69_3 : wc.cell? ⟨gb135, 3, none⟩ = some (.int .i64 0) := (blk_cell BK135.out 3).trans rfl; have hfz69_0 := blk_frozen BK135.out 0; have hfz69_1 := blk_frozen BK135.out 1; have hfz69_2 := blk_frozen BK135.out 2; have hfz69_3 := blk_frozen BK135.out 3))
                                refine bodyPost_ret (results_ctt rfl _ _ gb135 23 #[.int .i64 0, .int .i64 0, .int .i64 0, .int .i64 0] (0, 0) _ rfl (by (with_reducible repeat (first | refine blk_drewN ?_ _ | refine blk_drew ?_ | refine blk_alloc ?_ _)); refine blk_put (cs := #[.int .i64 0, .int .i64 0, .int .i64 0, .int .i64 0]) ?_ 3 _ rfl; (with_reducible repeat (first | refine blk_drewN ?_ _ | refine blk_drew ?_ | refine blk_alloc ?_ _)); refine blk_put (cs := #[.int .i64 0, .int .i64 0, .int .i64 0, .int .i64 0]) ?_ 2 _ rfl; (with_reducible repeat (first | refine blk_drewN ?_ _ | refine blk_drew ?_ | refine blk_alloc ?_ _)); refine blk_put (cs := #[.int .i64 0, .int .i64 0, .int .i64 0, .int .i64 0]) ?_ 1 _ rfl; (with_reducible repeat (first | refine blk_drewN ?_ _ | refine blk_drew ?_ | refine blk_alloc ?_ _)); refine blk_put (cs := #[.int .i64 0, .int .i64 0, .int .i64 0, .int .i64 0]) ?_ 0 _ rfl; (with_reducible repeat (first | refine blk_drewN ?_ _ | refine blk_drew ?_ | refine blk_alloc ?_ _)); exact BK135.out) Tryd.underlying23 rfl (by kernel_rfl)) rfl ?_
                                exact ⟨by first | rfl | (simp [errW_none, errW_some] <;> rfl) | (simp [*, errW_none, errW_some] <;> rfl), by repeat (first | (with_reducible first | exact HB.out | apply below_alloc | apply pw_below_drewN | apply below_drew1 | refine below_set ?_ GE135.out | refine below_set ?_ GE136.out) | exact HB.out)⟩
                            · replace c53 := Bool.eq_false_iff.mpr c53
                              subst c53
                              have H1 : (some (0, 0, 0, 0, 0, 9)) = some (r1, r2, r3, r4, r5, r6) := by rw [if_neg (show ¬ (false = true) by decide)] at H; exact H
                              clear H
                              have H := H1
                              clear H1
                              simp only [Option.some.injEq, Prod.mk.injEq] at H
                              obtain ⟨rfl, rfl, rfl, rfl, rfl, rfl⟩ := H
                              have hnb70 := NB136_135.out
                              have hnc70 := NB135_136.out
                              have hcz71_0 : wc.cell? ⟨gb136, 0, none⟩ = some (.int .i64 (wrap64 (bt a0 a1))) := (blk_cell BK136.out 0).trans rfl
                              have hcz71_1 : wc.cell? ⟨gb136, 1, none⟩ = some (.int .i64 x137001_24) := (blk_cell BK136.out 1).trans rfl
                              have hcz71_2 : wc.cell? ⟨gb136, 2, none⟩ = some (.int .i64 x137002_24) := (blk_cell BK136.out 2).trans rfl
                              have hcz71_3 : wc.cell? ⟨gb136, 3, none⟩ = some (.int .i64 x137003_42) := (blk_cell BK136.out 3).trans rfl
                              have hfz71_0 := blk_frozen BK136.out 0
                              have hfz71_1 := blk_frozen BK136.out 1
                              have hfz71_2 := blk_frozen BK136.out 2
                              have hfz71_3 := blk_frozen BK136.out 3
                              go_wp2_with (first | ((with_reducible refine gate_callee (f := 21) rfl ?_); refine goesL_ (some 94) rfl rfl Tryd.func21 (by kernel_rfl) rfl #[.int .i64 x137001_24] rfl (by (try simp only [List.map_toArray, List.map_cons, List.map_nil]); first | done | rfl | (simp only [List.length_drop, List.length_take]; rfl)) ?_; (with_reducible refine (ins_isRegister.calls x137001_24 false _ A52.out).mono ?_); rintro e w' ⟨rfl, ⟨nd, rfl⟩⟩; refine ⟨_, rfl, ?_⟩; (try (rw [drewN_self wc]; generalize hq_ : World.drewN wc _ = wc; have n0_ : Aside0 (wc.heap[gb135]? = some (.cells #[.int .i64 0, .int .i64 0, .int .i64 0, .int .i64 0] 23 (0, 0))) := ⟨by rw [← hq_]; exact (by (with_reducible repeat (first | refine blk_drewN ?_ _ | refine blk_drew ?_ | refine blk_alloc ?_ _)); exact BK135.out)⟩; have n1_ : Aside0 (wc.heap[gb136]? = some (.cells #[.int .i64 (wrap64 (bt a0 a1)), .int .i64 x137001_24, .int .i64 x137002_24, .int .i64 x137003_42] 23 (0, 0))) := ⟨by rw [← hq_]; exact (by (with_reducible repeat (first | refine blk_drewN ?_ _ | refine blk_drew ?_ | refine blk_alloc ?_ _)); exact BK136.out)⟩; have n2_ : Aside0 (Below w.heap.size w wc) := ⟨by rw [← hq_]; exact (by repeat (first | (with_reducible first | exact HB.out | apply below_alloc | apply pw_below_drewN | apply below_drew1 | refine below_set ?_ GE135.out | refine below_set ?_ GE136.out) | exact HB.out))⟩; clear BK135 BK136 HB hq_; have BK135 := n0_; have BK136 := n1_; have HB := n2_; clear n0_ n1_ n2_; have hcq135_0 : wc.cell? ⟨gb135, 0, none⟩ = some (.int .i64 0) := (blk_cell BK135.out 0).trans rfl; have hfq135_0 := blk_frozen BK135.out 0; have hcq135_1 : wc.cell? ⟨gb135, 1, none⟩ = some (.int .i64 0) := (blk_cell BK135.out 1).trans rfl; have hfq135_1 := blk_frozen BK135.out 1; have hcq135_2 : wc.cell? ⟨gb135, 2, none⟩ = some (.int .i64 0) := (blk_cell BK135.out 2).trans rfl; have hfq135_2 := blk_frozen BK135.out 2; have hcq135_3 : wc.cell? ⟨gb135, 3, none⟩ = some (.int .i64 0) := (blk_cell BK135.out 3).trans rfl; have hfq135_3 := blk_frozen BK135.out 3; have hcq136_0 : wc.cell? ⟨gb136, 0, none⟩ = some (.int .i64 (wrap64 (bt a0 a1))) := (blk_cell BK136.out 0).trans rfl; have hfq136_0 := blk_frozen BK136.out 0; have hcq136_1 : wc.cell? ⟨gb136, 1, none⟩ = some (.int .i64 x137001_24) := (blk_cell BK136.out 1).trans rfl; have hfq136_1 := blk_frozen BK136.out 1; have hcq136_2 : wc.cell? ⟨gb136, 2, none⟩ = some (.int .i64 x137002_24) := (blk_cell BK136.out 2).trans rfl; have hfq136_2 := blk_frozen BK136.out 2; have hcq136_3 : wc.cell? ⟨gb136, 3, none⟩ = some (.int .i64 x137003_42) := (blk_cell BK136.out 3).trans rfl; have hfq136_3 := blk_frozen BK136.out 3)); have hcz72_0 : wc.cell? ⟨gb135, 0, none⟩ = some (.int .i64 0) := (blk_cell BK135.out 0).trans rfl; have hcz72_1 : wc.cell? ⟨gb135, 1, none⟩ = some (.int .i64 0) := (blk_cell BK135.out 1).trans rfl; have hcz72_2 : wc.cell? ⟨gb135, 2, none⟩ = some (.int .i64 0) := (blk_cell BK135.out 2).trans rfl; have hcz72_3 : wc.cell? ⟨gb135, 3, none⟩ = some (.int .i64 0) := (blk_cell BK135.out 3).trans rfl; have hfz72_0 := blk_frozen BK135.out 0; have hfz72_1 := blk_frozen BK135.out 1; have hfz72_2 := blk_frozen BK135.out 2; have hfz72_3 := blk_frozen BK135.out 3))
                              refine bodyPost_ret (results_ctt rfl _ _ gb135 23 #[.int .i64 0, .int .i64 0, .int .i64 0, .int .i64 0] (0, 0) _ rfl (by (with_reducible repeat (first | refine blk_drewN ?_ _ | refine blk_drew ?_ | refine blk_alloc ?_ _)); refine blk_put (cs := #[.int .i64 0, .int .i64 0, .int .i64 0, .int .i64 0]) ?_ 3 _ rfl; (with_reducible repeat (first | refine blk_drewN ?_ _ | refine blk_drew ?_ | refine blk_alloc ?_ _)); refine blk_put (cs := #[.int .i64 0, .int .i64 0, .int .i64 0, .int .i64 0]) ?_ 2 _ rfl; (with_reducible repeat (first | refine blk_drewN ?_ _ | refine blk_drew ?_ | refine blk_alloc ?_ _)); refine blk_put (cs := #[.int .i64 0, .int .i64 0, .int .i64 0, .int .i64 0]) ?_ 1 _ rfl; (with_reducible repeat (first | refine blk_drewN ?_ _ | refine blk_drew ?_ | refine blk_alloc ?_ _)); refine blk_put (cs := #[.int .i64 0, .int .i64 0, .int .i64 0, .int .i64 0]) ?_ 0 _ rfl; (with_reducible repeat (first | refine blk_drewN ?_ _ | refine blk_drew ?_ | refine blk_alloc ?_ _)); exact BK135.out) Tryd.underlying23 rfl (by kernel_rfl)) rfl ?_
                              exact ⟨by first | rfl | (simp [errW_none, errW_some] <;> rfl) | (simp [*, errW_none, errW_some] <;> rfl), by repeat (first | (with_reducible first | exact HB.out | apply below_alloc | apply pw_below_drewN | apply below_drew1 | refine below_set ?_ GE135.out | refine below_set ?_ GE136.out) | exact HB.out)⟩
            · rw [if_neg c11] at H
              exact absurd H (by simp)
          · rw [if_neg c10] at H
            exact absurd H (by simp)

end Go.Proofs.YthmheblilgegcaaDoor.M
