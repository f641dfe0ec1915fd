-- Written by a program of this session (wip/ownprint.py) over the translation. Lean checks it.
import Derived.Test.YthmheblilgegcaaDoorM0
import Derived.Test.YthmheblilgegcaaDoorM1
import Derived.Test.YthmheblilgegcaaDoorM4
import Derived.Test.YthmheblilgegcaaDoorM8
import Derived.Test.YthmheblilgegcaaDoorM9
import Derived.Test.YthmheblilgegcaaDoorM10
import Derived.Test.YthmheblilgegcaaDoorM14
namespace Go.Proofs.YthmheblilgegcaaDoor.M
open Go.RowKit Go.Proofs.YthmheblilgegcaaDoorW.PrintWords Go.Proofs.YthmheblilgegcaaDoorW.PrintLast Go.Proofs.YthmheblilgegcaaDoorW.PrintMore
attribute [local go_sem] max2_int min2_int max_two min_two max_three min_three max_four min_four   -- for this text's walks alone
set_option linter.unusedVariables false
set_option linter.unusedSimpArgs false

attribute [local go_sem high] eqA23
/-! ### cotterlaw03_InsBack: function 6 -/
mutual
def cotterlaw03_InsBack.j0 : Nat → ByteArray → Option (Bool)
  | 0, _ => none
  | k + 1, x1 => (ins_All.f k x1).bind fun bt276 => (if bt276.2 = 0 then (cotterlaw03_InsBack.l0 k x1 bt276.1 (⟨#[]⟩ : ByteArray) 0) else (if (bt276.1.length : Int) = 0 then ((cotterlaw03_live.f k).bind fun t280 => (some t280)) else (some false)))
def cotterlaw03_InsBack.l0 : Nat → ByteArray → List (S23) → ByteArray → Int → Option (Bool)
  | 0, _, _, _, _ => none
  | k + 1, x1, x10, x12, x13 => if x13 < (x10.length : Int) then (if 0 ≤ x13 then ((ins_Encode.f k ((rd_T23 x10 x13).f0) ((rd_T23 x10 x13).f1) ((rd_T23 x10 x13).f2) ((rd_T23 x10 x13).f3)).bind fun bt282 => (if bt282.2 = 0 then (if x12.size + bt282.1.size ≤ 9223372036854775807 then (cotterlaw03_InsBack.l0 k x1 x10 (x12 ++ bt282.1) (wrap64 (x13 + 1))) else (none)) else (some false))) else (none)) else (if x12.toList = x1.toList then ((cotterlaw03_live.f k).bind fun t284 => (some t284)) else (some false))
end
def cotterlaw03_InsBack.f (k : Nat) (a0_0 : Int) (a0_1 : Int) (a0_2 : Int) (a0_3 : Int) (a1 : ByteArray) : Option (Bool) := (ins_Encode.f k a0_0 a0_1 a0_2 a0_3).bind fun bt266 => (if bt266.2 = 0 then ((ins_Decode.f k bt266.1 0).bind fun bt268 => (if bt268.2.2.2.2.2 = 0 then (if (!(bt268.1 == a0_0) || (!(bt268.2.1 == a0_1) || (!(bt268.2.2.1 == a0_2) || (!(bt268.2.2.2.1 == a0_3))))) = true then (some false) else (if bt268.2.2.2.2.1 = (bt266.1.size : Int) then ((ins_Size.f k a0_0).bind fun t275 => (if (bt266.1.size : Int) = t275 then (cotterlaw03_InsBack.j0 k a1) else (some false))) else (some false))) else (some false))) else (cotterlaw03_InsBack.j0 k a1))
theorem cotterlaw03_InsBack.mono_l : ∀ k, (∀ y0, LeO (cotterlaw03_InsBack.j0 k y0) (cotterlaw03_InsBack.j0 (k + 1) y0)) ∧ (∀ y0 y1 y2 y3, LeO (cotterlaw03_InsBack.l0 k y0 y1 y2 y3) (cotterlaw03_InsBack.l0 (k + 1) y0 y1 y2 y3))
  | 0 => ⟨fun _ r h => by simp [cotterlaw03_InsBack.j0] at h, fun _ _ _ _ r h => by simp [cotterlaw03_InsBack.l0] at h⟩
  | k + 1 => by
    obtain ⟨ih0, ih1⟩ := cotterlaw03_InsBack.mono_l k
    refine ⟨?_, ?_⟩
    · intro y0
      unfold cotterlaw03_InsBack.j0
      repeat' first
      | (with_reducible exact ih0 _)
      | (with_reducible exact ih1 _ _ _ _)
      | (with_reducible exact cotterlaw03_live.mono _)
      | (with_reducible exact ins_All.mono _ _)
      | (with_reducible exact ins_Decode.mono _ _ _)
      | (with_reducible exact ins_Encode.mono _ _ _ _ _)
      | (with_reducible exact ins_Size.mono _ _)
      | (with_reducible exact LeO.refl _)
      | (with_reducible exact LeO.none _)
      | (with_reducible refine LeO.ite ?_ ?_)
      | (with_reducible refine LeO.bind ?_ (fun _ => ?_))
      | exact ih0 _
      | exact ih1 _ _ _ _
      | exact cotterlaw03_live.mono _
      | exact ins_All.mono _ _
      | exact ins_Decode.mono _ _ _
      | exact ins_Encode.mono _ _ _ _ _
      | exact ins_Size.mono _ _
      | exact LeO.none _
      | refine LeO.ite ?_ ?_
      | refine LeO.bind ?_ (fun _ => ?_)
    · intro y0 y1 y2 y3
      unfold cotterlaw03_InsBack.l0
      repeat' first
      | (with_reducible exact ih0 _)
      | (with_reducible exact ih1 _ _ _ _)
      | (with_reducible exact cotterlaw03_live.mono _)
      | (with_reducible exact ins_All.mono _ _)
      | (with_reducible exact ins_Decode.mono _ _ _)
      | (with_reducible exact ins_Encode.mono _ _ _ _ _)
      | (with_reducible exact ins_Size.mono _ _)
      | (with_reducible exact LeO.refl _)
      | (with_reducible exact LeO.none _)
      | (with_reducible refine LeO.ite ?_ ?_)
      | (with_reducible refine LeO.bind ?_ (fun _ => ?_))
      | exact ih0 _
      | exact ih1 _ _ _ _
      | exact cotterlaw03_live.mono _
      | exact ins_All.mono _ _
      | exact ins_Decode.mono _ _ _
      | exact ins_Encode.mono _ _ _ _ _
      | exact ins_Size.mono _ _
      | exact LeO.none _
      | refine LeO.ite ?_ ?_
      | refine LeO.bind ?_ (fun _ => ?_)
theorem cotterlaw03_InsBack.mono : ∀ a0 a1 a2 a3 a4 k, LeO (cotterlaw03_InsBack.f k a0 a1 a2 a3 a4) (cotterlaw03_InsBack.f (k + 1) a0 a1 a2 a3 a4) := by
  intro a0 a1 a2 a3 a4 k
  obtain ⟨ih0, ih1⟩ := cotterlaw03_InsBack.mono_l k
  unfold cotterlaw03_InsBack.f
  repeat' first
      | (with_reducible exact ih0 _)
      | (with_reducible exact ih1 _ _ _ _)
      | (with_reducible exact cotterlaw03_live.mono _)
      | (with_reducible exact ins_All.mono _ _)
      | (with_reducible exact ins_Decode.mono _ _ _)
      | (with_reducible exact ins_Encode.mono _ _ _ _ _)
      | (with_reducible exact ins_Size.mono _ _)
      | (with_reducible exact LeO.refl _)
      | (with_reducible exact LeO.none _)
      | (with_reducible refine LeO.ite ?_ ?_)
      | (with_reducible refine LeO.bind ?_ (fun _ => ?_))
      | exact ih0 _
      | exact ih1 _ _ _ _
      | exact cotterlaw03_live.mono _
      | exact ins_All.mono _ _
      | exact ins_Decode.mono _ _ _
      | exact ins_Encode.mono _ _ _ _ _
      | exact ins_Size.mono _ _
      | exact LeO.none _
      | refine LeO.ite ?_ ?_
      | refine LeO.bind ?_ (fun _ => ?_)
set_option maxHeartbeats 8000000 in
set_option maxRecDepth 100000 in
theorem cotterlaw03_InsBack.calls (k : Nat) (a0_0 : Int) (a0_1 : Int) (a0_2 : Int) (a0_3 : Int) (a1 : ByteArray) (r : Bool) (w : World) (hG : Glob w) (h : cotterlaw03_InsBack.f k a0_0 a0_1 a0_2 a0_3 a1 = some r) :
    Calls Tryd.prog 6 #[.agg #[.int .i64 a0_0, .int .i64 a0_1, .int .i64 a0_2, .int .i64 a0_3], .string a1] w fun e w' => e = .returned (.bool r) ∧ Below w.heap.size w w' := by
  have HG := Aside0.mk hG
  clear hG
  have hu23 := Tryd.underlying23
  have HB := Aside0.mk (Below.refl w.heap.size w)
  have H : ((ins_Encode.f k a0_0 a0_1 a0_2 a0_3).bind fun bt266 => (if bt266.2 = 0 then ((ins_Decode.f k bt266.1 0).bind fun bt268 => (if bt268.2.2.2.2.2 = 0 then (if (!(bt268.1 == a0_0) || (!(bt268.2.1 == a0_1) || (!(bt268.2.2.1 == a0_2) || (!(bt268.2.2.2.1 == a0_3))))) = true then (some false) else (if bt268.2.2.2.2.1 = (bt266.1.size : Int) then ((ins_Size.f k a0_0).bind fun t275 => (if (bt266.1.size : Int) = t275 then (cotterlaw03_InsBack.j0 k a1) else (some false))) else (some false))) else (some false))) else (cotterlaw03_InsBack.j0 k a1))) = some r := h
  clear h
  replace H := Option.bind_eq_some_iff.mp H
  obtain ⟨⟨t266, t267⟩, A30, H⟩ := H
  replace H : (if t267 = 0 then ((ins_Decode.f k t266 0).bind fun bt268 => (if bt268.2.2.2.2.2 = 0 then (if (!(bt268.1 == a0_0) || (!(bt268.2.1 == a0_1) || (!(bt268.2.2.1 == a0_2) || (!(bt268.2.2.2.1 == a0_3))))) = true then (some false) else (if bt268.2.2.2.2.1 = (t266.size : Int) then ((ins_Size.f k a0_0).bind fun t275 => (if (t266.size : Int) = t275 then (cotterlaw03_InsBack.j0 k a1) else (some false))) else (some false))) else (some false))) else (cotterlaw03_InsBack.j0 k a1)) = some r := H
  have A3 := Aside0.mk A30
  clear A30
  have HC4 := Aside0.mk H
  clear H
  go_enter Tryd.func6, Tryd.ntmps6
  go_upto_if 22 with (first | ((with_reducible refine gate_dst (N := 2) rfl ?_); (try (refine gate_guard (by rfl) ?_; dsimp only)); refine box_event ?hg (N := 2) ?hd (cs := #[.int .i64 a0_0, .int .i64 a0_1, .int .i64 a0_2, .int .i64 a0_3]) (t := 23) ?hr ?_; (case hd => rfl); (case hg => rfl); (case hr => first | (go_simp; done) | (go_simp; rfl)); intro gb265 hg w5 hbox hb; have n0_ := Aside0.mk (below_step (by repeat (first | (with_reducible first | exact HB.out | apply below_alloc | apply pw_below_drewN | apply below_drew1) | exact HB.out)) hb); have n1_ := Aside0.mk (hbox); have n2_ := Aside0.mk ((by rw [hg]; exact (below_size (by repeat (first | (with_reducible first | exact HB.out | apply below_alloc | apply pw_below_drewN | apply below_drew1) | exact HB.out))) : w.heap.size ≤ gb265)); have n3_ := Aside0.mk ((by rw [hg]; exact (below_size (by repeat (first | (with_reducible first | exact HB.out | apply below_alloc | apply pw_below_drewN | apply below_drew1) | exact HB.out))) : w.heap.size ≤ gb265)); clear HB; have HB := n0_; have BK265 := n1_; have GW265 := n2_; have GE265 := n3_; clear n0_ n1_ n2_ n3_; clear hb hbox hg; have hcz6_0 : w5.cell? ⟨gb265, 0, none⟩ = some (.int .i64 a0_0) := (blk_cell BK265.out 0).trans rfl; have hcz6_1 : w5.cell? ⟨gb265, 1, none⟩ = some (.int .i64 a0_1) := (blk_cell BK265.out 1).trans rfl; have hcz6_2 : w5.cell? ⟨gb265, 2, none⟩ = some (.int .i64 a0_2) := (blk_cell BK265.out 2).trans rfl; have hcz6_3 : w5.cell? ⟨gb265, 3, none⟩ = some (.int .i64 a0_3) := (blk_cell BK265.out 3).trans rfl; have hfz6_0 := blk_frozen BK265.out 0; have hfz6_1 := blk_frozen BK265.out 1; have hfz6_2 := blk_frozen BK265.out 2; have hfz6_3 := blk_frozen BK265.out 3) | ((with_reducible refine gate_callee (f := 9) rfl ?_); refine goesL_ (some 18) rfl rfl Tryd.func9 (by kernel_rfl) rfl #[.agg #[.int .i64 a0_0, .int .i64 a0_1, .int .i64 a0_2, .int .i64 a0_3]] rfl (by (try simp only [List.map_toArray, List.map_cons, List.map_nil]); first | done | rfl | (simp only [List.length_drop, List.length_take]; rfl)) ?_; (with_reducible refine (ins_Encode.calls k a0_0 a0_1 a0_2 a0_3 t266 t267 _ (HG.out.below (by first | exact Below.refl _ _ | (repeat (first | (with_reducible first | exact HB.out | apply below_alloc | apply pw_below_drewN | apply below_drew1 | refine below_set ?_ GE265.out | refine below_set ?_ GE274.out) | exact HB.out))) rfl) A3.out).mono ?_); rintro e w7 ⟨rfl, hb⟩; refine ⟨_, rfl, ?_⟩; have n0_ := Aside0.mk (blk_below (g := gb265) (o := .cells #[.int .i64 a0_0, .int .i64 a0_1, .int .i64 a0_2, .int .i64 a0_3] 23 (0, 0)) (by (with_reducible repeat (first | refine blk_drewN ?_ _ | refine blk_drew ?_ | refine blk_alloc ?_ _)); exact BK265.out) hb); have n1_ := Aside0.mk (below_step (by repeat (first | (with_reducible first | exact HB.out | apply below_alloc | apply pw_below_drewN | apply below_drew1 | refine below_set ?_ GE265.out) | exact HB.out)) hb); clear BK265; clear HB; have BK265 := n0_; have HB := n1_; clear n0_ n1_; (try clear hb); (try clear hb2); (try clear hk); (try clear hi)))
  (try simp only [Act.put, List.setIfInBounds_toArray, List.set_cons_zero, List.set_cons_succ])
  go_cut [] (fun wc => ∃ (kq : Nat), Aside0 (cotterlaw03_InsBack.j0 kq a1 = some r) ∧ Aside0 (kq ≤ k) ∧ Aside0 (wc.heap[gb265]? = some (.cells #[.int .i64 a0_0, .int .i64 a0_1, .int .i64 a0_2, .int .i64 a0_3] 23 (0, 0))) ∧ Aside0 (Below w.heap.size w wc))
  case first =>
    have H := HC4.out
    clear HC4
    by_cases c8 : t267 = 0
    · rw [if_pos c8] at H
      have c8b0 : (t267 == 0) = true := beq_iff_eq.mpr c8
      have c8b1 : (t267 != 0) = false := bne_eq_false_iff_eq.mpr c8
      clear c8
      (first | rw [c8b0] | (simp only [i64_w, i32_w]; rw [c8b0]) | skip)
      replace H := Option.bind_eq_some_iff.mp H
      obtain ⟨⟨t268, t269, t270, t271, t272, t273⟩, A90, H⟩ := H
      replace H : (if t273 = 0 then (if (!(t268 == a0_0) || (!(t269 == a0_1) || (!(t270 == a0_2) || (!(t271 == a0_3))))) = true then (some false) else (if t272 = (t266.size : Int) then ((ins_Size.f k a0_0).bind fun t275 => (if (t266.size : Int) = t275 then (cotterlaw03_InsBack.j0 k a1) else (some false))) else (some false))) else (some false)) = some r := H
      have A9 := Aside0.mk A90
      clear A90
      by_cases c10 : t273 = 0
      · rw [if_pos c10] at H
        have c10b0 : (t273 == 0) = true := beq_iff_eq.mpr c10
        have c10b1 : (t273 != 0) = false := bne_eq_false_iff_eq.mpr c10
        clear c10
        by_cases c11 : (!(t268 == a0_0) || (!(t269 == a0_1) || (!(t270 == a0_2) || (!(t271 == a0_3))))) = true
        · rw [if_pos c11] at H
          have c11b0 : (!(t268 == a0_0) || (!(t269 == a0_1) || (!(t270 == a0_2) || (!(t271 == a0_3))))) = true := c11
          clear c11
          obtain rfl := Option.some.inj H
          go_wp2_with (first | ((with_reducible refine gate_callee (f := 14) rfl ?_); refine goesL_ (some 25) rfl rfl Tryd.func14 (by kernel_rfl) rfl #[.string t266, .int .i64 0] rfl (by (try simp only [List.map_toArray, List.map_cons, List.map_nil]); first | done | rfl | (simp only [List.length_drop, List.length_take]; rfl)) ?_; (with_reducible refine (ins_Decode.calls k t266 0 t268 t269 t270 t271 t272 t273 _ (HG.out.below (by first | exact Below.refl _ _ | (repeat (first | (with_reducible first | exact HB.out | apply below_alloc | apply pw_below_drewN | apply below_drew1 | refine below_set ?_ GE265.out | refine below_set ?_ GE274.out) | exact HB.out))) rfl) A9.out).mono ?_); rintro e w12 ⟨rfl, hb⟩; refine ⟨_, rfl, ?_⟩; have n0_ := Aside0.mk (blk_below (g := gb265) (o := .cells #[.int .i64 a0_0, .int .i64 a0_1, .int .i64 a0_2, .int .i64 a0_3] 23 (0, 0)) (by (with_reducible repeat (first | refine blk_drewN ?_ _ | refine blk_drew ?_ | refine blk_alloc ?_ _)); exact BK265.out) hb); have n1_ := Aside0.mk (below_step (by repeat (first | (with_reducible first | exact HB.out | apply below_alloc | apply pw_below_drewN | apply below_drew1 | refine below_set ?_ GE265.out) | exact HB.out)) hb); clear BK265; clear HB; have BK265 := n0_; have HB := n1_; clear n0_ n1_; (try clear hb); (try clear hb2); (try clear hk); (try clear hi)) | ((with_reducible refine gate_dst (N := 7) rfl ?_); (try (refine gate_guard (by rfl) ?_; dsimp only)); refine box_event ?hg (N := 7) ?hd (cs := #[.int .i64 0, .int .i64 0, .int .i64 0, .int .i64 0]) (t := 23) ?hr ?_; (case hd => rfl); (case hg => rfl); (case hr => first | (go_simp; done) | (go_simp; rfl)); intro gb274 hg w13 hbox hb; have n0_ := Aside0.mk (blk_below (g := gb265) (o := .cells #[.int .i64 a0_0, .int .i64 a0_1, .int .i64 a0_2, .int .i64 a0_3] 23 (0, 0)) (by (with_reducible repeat (first | refine blk_drewN ?_ _ | refine blk_drew ?_ | refine blk_alloc ?_ _)); exact BK265.out) hb); have n1_ := Aside0.mk (below_step (by repeat (first | (with_reducible first | exact HB.out | apply below_alloc | apply pw_below_drewN | apply below_drew1 | refine below_set ?_ GE265.out) | exact HB.out)) hb); have n2_ := Aside0.mk (hbox); have n3_ := Aside0.mk ((by rw [hg]; exact (below_size (by repeat (first | (with_reducible first | exact HB.out | apply below_alloc | apply pw_below_drewN | apply below_drew1 | refine below_set ?_ GE265.out) | exact HB.out))) : w.heap.size ≤ gb274)); have n4_ := Aside0.mk ((by rw [hg]; exact (below_size (by repeat (first | (with_reducible first | exact HB.out | apply below_alloc | apply pw_below_drewN | apply below_drew1 | refine below_set ?_ GE265.out) | exact HB.out))) : w.heap.size ≤ gb274)); have n5_ := Aside0.mk ((by rw [hg]; exact Nat.ne_of_lt (blk_lt (g := gb265) (o := .cells #[.int .i64 a0_0, .int .i64 a0_1, .int .i64 a0_2, .int .i64 a0_3] 23 (0, 0)) (by (with_reducible repeat (first | refine blk_drewN ?_ _ | refine blk_drew ?_ | refine blk_alloc ?_ _)); exact BK265.out)) : gb265 ≠ gb274)); have n6_ := Aside0.mk ((by rw [hg]; exact Nat.ne_of_gt (blk_lt (g := gb265) (o := .cells #[.int .i64 a0_0, .int .i64 a0_1, .int .i64 a0_2, .int .i64 a0_3] 23 (0, 0)) (by (with_reducible repeat (first | refine blk_drewN ?_ _ | refine blk_drew ?_ | refine blk_alloc ?_ _)); exact BK265.out)) : gb274 ≠ gb265)); clear BK265; clear HB; have BK265 := n0_; have HB := n1_; have BK274 := n2_; have GW274 := n3_; have GE274 := n4_; have NB265_274 := n5_; have NB274_265 := n6_; clear n0_ n1_ n2_ n3_ n4_ n5_ n6_; clear hb hbox hg; have hnb14 := NB274_265.out; have hnc14 := NB265_274.out; have hcz15_0 : w13.cell? ⟨gb274, 0, none⟩ = some (.int .i64 0) := (blk_cell BK274.out 0).trans rfl; have hcz15_1 : w13.cell? ⟨gb274, 1, none⟩ = some (.int .i64 0) := (blk_cell BK274.out 1).trans rfl; have hcz15_2 : w13.cell? ⟨gb274, 2, none⟩ = some (.int .i64 0) := (blk_cell BK274.out 2).trans rfl; have hcz15_3 : w13.cell? ⟨gb274, 3, none⟩ = some (.int .i64 0) := (blk_cell BK274.out 3).trans rfl; have hfz15_0 := blk_frozen BK274.out 0; have hfz15_1 := blk_frozen BK274.out 1; have hfz15_2 := blk_frozen BK274.out 2; have hfz15_3 := blk_frozen BK274.out 3; have hcz16_0 : w13.cell? ⟨gb265, 0, none⟩ = some (.int .i64 a0_0) := (blk_cell BK265.out 0).trans rfl; have hcz16_1 : w13.cell? ⟨gb265, 1, none⟩ = some (.int .i64 a0_1) := (blk_cell BK265.out 1).trans rfl; have hcz16_2 : w13.cell? ⟨gb265, 2, none⟩ = some (.int .i64 a0_2) := (blk_cell BK265.out 2).trans rfl; have hcz16_3 : w13.cell? ⟨gb265, 3, none⟩ = some (.int .i64 a0_3) := (blk_cell BK265.out 3).trans rfl; have hfz16_0 := blk_frozen BK265.out 0; have hfz16_1 := blk_frozen BK265.out 1; have hfz16_2 := blk_frozen BK265.out 2; have hfz16_3 := blk_frozen BK265.out 3))
          go_ret
          exact ⟨by first | rfl | (simp [errW_none, errW_some] <;> rfl) | (simp [*, errW_none, errW_some] <;> rfl), by repeat (first | (with_reducible first | exact HB.out | apply below_alloc | apply pw_below_drewN | apply below_drew1 | refine below_set ?_ GE265.out | refine below_set ?_ GE274.out) | exact HB.out)⟩
        · rw [if_neg c11] at H
          have c11b0 : (!(t268 == a0_0) || (!(t269 == a0_1) || (!(t270 == a0_2) || (!(t271 == a0_3))))) = false := by simpa using c11
          clear c11
          by_cases c17 : t272 = (t266.size : Int)
          · rw [if_pos c17] at H
            have c17b0 : (t272 == (t266.size : Int)) = true := beq_iff_eq.mpr c17
            have c17b1 : (t272 != (t266.size : Int)) = false := bne_eq_false_iff_eq.mpr c17
            clear c17
            replace H := Option.bind_eq_some_iff.mp H
            obtain ⟨t275, A180, H⟩ := H
            replace H : (if (t266.size : Int) = t275 then (cotterlaw03_InsBack.j0 k a1) else (some false)) = some r := H
            have A18 := Aside0.mk A180
            clear A180
            by_cases c19 : (t266.size : Int) = t275
            · rw [if_pos c19] at H
              have c19b0 : ((t266.size : Int) == t275) = true := beq_iff_eq.mpr c19
              have c19b1 : ((t266.size : Int) != t275) = false := bne_eq_false_iff_eq.mpr c19
              clear c19
              have H' := Aside0.mk H
              clear H
              go_wp2_with (first | ((with_reducible refine gate_callee (f := 14) rfl ?_); refine goesL_ (some 25) rfl rfl Tryd.func14 (by kernel_rfl) rfl #[.string t266, .int .i64 0] rfl (by (try simp only [List.map_toArray, List.map_cons, List.map_nil]); first | done | rfl | (simp only [List.length_drop, List.length_take]; rfl)) ?_; (with_reducible refine (ins_Decode.calls k t266 0 t268 t269 t270 t271 t272 t273 _ (HG.out.below (by first | exact Below.refl _ _ | (repeat (first | (with_reducible first | exact HB.out | apply below_alloc | apply pw_below_drewN | apply below_drew1 | refine below_set ?_ GE265.out | refine below_set ?_ GE274.out) | exact HB.out))) rfl) A9.out).mono ?_); rintro e w20 ⟨rfl, hb⟩; refine ⟨_, rfl, ?_⟩; have n0_ := Aside0.mk (blk_below (g := gb265) (o := .cells #[.int .i64 a0_0, .int .i64 a0_1, .int .i64 a0_2, .int .i64 a0_3] 23 (0, 0)) (by (with_reducible repeat (first | refine blk_drewN ?_ _ | refine blk_drew ?_ | refine blk_alloc ?_ _)); exact BK265.out) hb); have n1_ := Aside0.mk (below_step (by repeat (first | (with_reducible first | exact HB.out | apply below_alloc | apply pw_below_drewN | apply below_drew1 | refine below_set ?_ GE265.out) | exact HB.out)) hb); clear BK265; clear HB; have BK265 := n0_; have HB := n1_; clear n0_ n1_; (try clear hb); (try clear hb2); (try clear hk); (try clear hi)) | ((with_reducible refine gate_dst (N := 7) rfl ?_); (try (refine gate_guard (by rfl) ?_; dsimp only)); refine box_event ?hg (N := 7) ?hd (cs := #[.int .i64 0, .int .i64 0, .int .i64 0, .int .i64 0]) (t := 23) ?hr ?_; (case hd => rfl); (case hg => rfl); (case hr => first | (go_simp; done) | (go_simp; rfl)); intro gb274 hg w21 hbox hb; have n0_ := Aside0.mk (blk_below (g := gb265) (o := .cells #[.int .i64 a0_0, .int .i64 a0_1, .int .i64 a0_2, .int .i64 a0_3] 23 (0, 0)) (by (with_reducible repeat (first | refine blk_drewN ?_ _ | refine blk_drew ?_ | refine blk_alloc ?_ _)); exact BK265.out) hb); have n1_ := Aside0.mk (below_step (by repeat (first | (with_reducible first | exact HB.out | apply below_alloc | apply pw_below_drewN | apply below_drew1 | refine below_set ?_ GE265.out) | exact HB.out)) hb); have n2_ := Aside0.mk (hbox); have n3_ := Aside0.mk ((by rw [hg]; exact (below_size (by repeat (first | (with_reducible first | exact HB.out | apply below_alloc | apply pw_below_drewN | apply below_drew1 | refine below_set ?_ GE265.out) | exact HB.out))) : w.heap.size ≤ gb274)); have n4_ := Aside0.mk ((by rw [hg]; exact (below_size (by repeat (first | (with_reducible first | exact HB.out | apply below_alloc | apply pw_below_drewN | apply below_drew1 | refine below_set ?_ GE265.out) | exact HB.out))) : w.heap.size ≤ gb274)); have n5_ := Aside0.mk ((by rw [hg]; exact Nat.ne_of_lt (blk_lt (g := gb265) (o := .cells #[.int .i64 a0_0, .int .i64 a0_1, .int .i64 a0_2, .int .i64 a0_3] 23 (0, 0)) (by (with_reducible repeat (first | refine blk_drewN ?_ _ | refine blk_drew ?_ | refine blk_alloc ?_ _)); exact BK265.out)) : gb265 ≠ gb274)); have n6_ := Aside0.mk ((by rw [hg]; exact Nat.ne_of_gt (blk_lt (g := gb265) (o := .cells #[.int .i64 a0_0, .int .i64 a0_1, .int .i64 a0_2, .int .i64 a0_3] 23 (0, 0)) (by (with_reducible repeat (first | refine blk_drewN ?_ _ | refine blk_drew ?_ | refine blk_alloc ?_ _)); exact BK265.out)) : gb274 ≠ gb265)); clear BK265; clear HB; have BK265 := n0_; have HB := n1_; have BK274 := n2_; have GW274 := n3_; have GE274 := n4_; have NB265_274 := n5_; have NB274_265 := n6_; clear n0_ n1_ n2_ n3_ n4_ n5_ n6_; clear hb hbox hg; have hnb22 := NB274_265.out; have hnc22 := NB265_274.out; have hcz23_0 : w21.cell? ⟨gb274, 0, none⟩ = some (.int .i64 0) := (blk_cell BK274.out 0).trans rfl; have hcz23_1 : w21.cell? ⟨gb274, 1, none⟩ = some (.int .i64 0) := (blk_cell BK274.out 1).trans rfl; have hcz23_2 : w21.cell? ⟨gb274, 2, none⟩ = some (.int .i64 0) := (blk_cell BK274.out 2).trans rfl; have hcz23_3 : w21.cell? ⟨gb274, 3, none⟩ = some (.int .i64 0) := (blk_cell BK274.out 3).trans rfl; have hfz23_0 := blk_frozen BK274.out 0; have hfz23_1 := blk_frozen BK274.out 1; have hfz23_2 := blk_frozen BK274.out 2; have hfz23_3 := blk_frozen BK274.out 3; have hcz24_0 : w21.cell? ⟨gb265, 0, none⟩ = some (.int .i64 a0_0) := (blk_cell BK265.out 0).trans rfl; have hcz24_1 : w21.cell? ⟨gb265, 1, none⟩ = some (.int .i64 a0_1) := (blk_cell BK265.out 1).trans rfl; have hcz24_2 : w21.cell? ⟨gb265, 2, none⟩ = some (.int .i64 a0_2) := (blk_cell BK265.out 2).trans rfl; have hcz24_3 : w21.cell? ⟨gb265, 3, none⟩ = some (.int .i64 a0_3) := (blk_cell BK265.out 3).trans rfl; have hfz24_0 := blk_frozen BK265.out 0; have hfz24_1 := blk_frozen BK265.out 1; have hfz24_2 := blk_frozen BK265.out 2; have hfz24_3 := blk_frozen BK265.out 3) | (go_at_call 11; (with_reducible refine (ins_Size.calls k a0_0 t275 _ (HG.out.below (by first | exact Below.refl _ _ | (repeat (first | (with_reducible first | exact HB.out | apply below_alloc | apply pw_below_drewN | apply below_drew1 | refine below_set ?_ GE265.out | refine below_set ?_ GE274.out) | exact HB.out))) rfl) A18.out).mono ?_); rintro e w' ⟨rfl, ⟨nd, rfl⟩⟩))
              go_meet
              case rel => exact ⟨_, H', ⟨by first | omega | exact Nat.le_refl _⟩, ⟨by (with_reducible repeat (first | refine blk_drewN ?_ _ | refine blk_drew ?_ | refine blk_alloc ?_ _)); refine blk_far ?_ NB265_274.out _; (with_reducible repeat (first | refine blk_drewN ?_ _ | refine blk_drew ?_ | refine blk_alloc ?_ _)); refine blk_far ?_ NB265_274.out _; (with_reducible repeat (first | refine blk_drewN ?_ _ | refine blk_drew ?_ | refine blk_alloc ?_ _)); refine blk_far ?_ NB265_274.out _; (with_reducible repeat (first | refine blk_drewN ?_ _ | refine blk_drew ?_ | refine blk_alloc ?_ _)); refine blk_far ?_ NB265_274.out _; (with_reducible repeat (first | refine blk_drewN ?_ _ | refine blk_drew ?_ | refine blk_alloc ?_ _)); exact BK265.out⟩, ⟨by repeat (first | (with_reducible first | exact HB.out | apply below_alloc | apply pw_below_drewN | apply below_drew1 | refine below_set ?_ GE265.out | refine below_set ?_ GE274.out) | exact HB.out)⟩⟩
            · rw [if_neg c19] at H
              have c19b0 : ((t266.size : Int) == t275) = false := beq_eq_false_iff_ne.mpr c19
              have c19b1 : ((t266.size : Int) != t275) = true := bne_iff_ne.mpr c19
              obtain rfl := Option.some.inj H
              go_wp2_with (first | ((with_reducible refine gate_callee (f := 14) rfl ?_); refine goesL_ (some 25) rfl rfl Tryd.func14 (by kernel_rfl) rfl #[.string t266, .int .i64 0] rfl (by (try simp only [List.map_toArray, List.map_cons, List.map_nil]); first | done | rfl | (simp only [List.length_drop, List.length_take]; rfl)) ?_; (with_reducible refine (ins_Decode.calls k t266 0 t268 t269 t270 t271 t272 t273 _ (HG.out.below (by first | exact Below.refl _ _ | (repeat (first | (with_reducible first | exact HB.out | apply below_alloc | apply pw_below_drewN | apply below_drew1 | refine below_set ?_ GE265.out | refine below_set ?_ GE274.out) | exact HB.out))) rfl) A9.out).mono ?_); rintro e w25 ⟨rfl, hb⟩; refine ⟨_, rfl, ?_⟩; have n0_ := Aside0.mk (blk_below (g := gb265) (o := .cells #[.int .i64 a0_0, .int .i64 a0_1, .int .i64 a0_2, .int .i64 a0_3] 23 (0, 0)) (by (with_reducible repeat (first | refine blk_drewN ?_ _ | refine blk_drew ?_ | refine blk_alloc ?_ _)); exact BK265.out) hb); have n1_ := Aside0.mk (below_step (by repeat (first | (with_reducible first | exact HB.out | apply below_alloc | apply pw_below_drewN | apply below_drew1 | refine below_set ?_ GE265.out) | exact HB.out)) hb); clear BK265; clear HB; have BK265 := n0_; have HB := n1_; clear n0_ n1_; (try clear hb); (try clear hb2); (try clear hk); (try clear hi)) | ((with_reducible refine gate_dst (N := 7) rfl ?_); (try (refine gate_guard (by rfl) ?_; dsimp only)); refine box_event ?hg (N := 7) ?hd (cs := #[.int .i64 0, .int .i64 0, .int .i64 0, .int .i64 0]) (t := 23) ?hr ?_; (case hd => rfl); (case hg => rfl); (case hr => first | (go_simp; done) | (go_simp; rfl)); intro gb274 hg w26 hbox hb; have n0_ := Aside0.mk (blk_below (g := gb265) (o := .cells #[.int .i64 a0_0, .int .i64 a0_1, .int .i64 a0_2, .int .i64 a0_3] 23 (0, 0)) (by (with_reducible repeat (first | refine blk_drewN ?_ _ | refine blk_drew ?_ | refine blk_alloc ?_ _)); exact BK265.out) hb); have n1_ := Aside0.mk (below_step (by repeat (first | (with_reducible first | exact HB.out | apply below_alloc | apply pw_below_drewN | apply below_drew1 | refine below_set ?_ GE265.out) | exact HB.out)) hb); have n2_ := Aside0.mk (hbox); have n3_ := Aside0.mk ((by rw [hg]; exact (below_size (by repeat (first | (with_reducible first | exact HB.out | apply below_alloc | apply pw_below_drewN | apply below_drew1 | refine below_set ?_ GE265.out) | exact HB.out))) : w.heap.size ≤ gb274)); have n4_ := Aside0.mk ((by rw [hg]; exact (below_size (by repeat (first | (with_reducible first | exact HB.out | apply below_alloc | apply pw_below_drewN | apply below_drew1 | refine below_set ?_ GE265.out) | exact HB.out))) : w.heap.size ≤ gb274)); have n5_ := Aside0.mk ((by rw [hg]; exact Nat.ne_of_lt (blk_lt (g := gb265) (o := .cells #[.int .i64 a0_0, .int .i64 a0_1, .int .i64 a0_2, .int .i64 a0_3] 23 (0, 0)) (by (with_reducible repeat (first | refine blk_drewN ?_ _ | refine blk_drew ?_ | refine blk_alloc ?_ _)); exact BK265.out)) : gb265 ≠ gb274)); have n6_ := Aside0.mk ((by rw [hg]; exact Nat.ne_of_gt (blk_lt (g := gb265) (o := .cells #[.int .i64 a0_0, .int .i64 a0_1, .int .i64 a0_2, .int .i64 a0_3] 23 (0, 0)) (by (with_reducible repeat (first | refine blk_drewN ?_ _ | refine blk_drew ?_ | refine blk_alloc ?_ _)); exact BK265.out)) : gb274 ≠ gb265)); clear BK265; clear HB; have BK265 := n0_; have HB := n1_; have BK274 := n2_; have GW274 := n3_; have GE274 := n4_; have NB265_274 := n5_; have NB274_265 := n6_; clear n0_ n1_ n2_ n3_ n4_ n5_ n6_; clear hb hbox hg; have hnb27 := NB274_265.out; have hnc27 := NB265_274.out; have hcz28_0 : w26.cell? ⟨gb274, 0, none⟩ = some (.int .i64 0) := (blk_cell BK274.out 0).trans rfl; have hcz28_1 : w26.cell? ⟨gb274, 1, none⟩ = some (.int .i64 0) := (blk_cell BK274.out 1).trans rfl; have hcz28_2 : w26.cell? ⟨gb274, 2, none⟩ = some (.int .i64 0) := (blk_cell BK274.out 2).trans rfl; have hcz28_3 : w26.cell? ⟨gb274, 3, none⟩ = some (.int .i64 0) := (blk_cell BK274.out 3).trans rfl; have hfz28_0 := blk_frozen BK274.out 0; have hfz28_1 := blk_frozen BK274.out 1; have hfz28_2 := blk_frozen BK274.out 2; have hfz28_3 := blk_frozen BK274.out 3; have hcz29_0 : w26.cell? ⟨gb265, 0, none⟩ = some (.int .i64 a0_0) := (blk_cell BK265.out 0).trans rfl; have hcz29_1 : w26.cell? ⟨gb265, 1, none⟩ = some (.int .i64 a0_1) := (blk_cell BK265.out 1).trans rfl; have hcz29_2 : w26.cell? ⟨gb265, 2, none⟩ = some (.int .i64 a0_2) := (blk_cell BK265.out 2).trans rfl; have hcz29_3 : w26.cell? ⟨gb265, 3, none⟩ = some (.int .i64 a0_3) := (blk_cell BK265.out 3).trans rfl; have hfz29_0 := blk_frozen BK265.out 0; have hfz29_1 := blk_frozen BK265.out 1; have hfz29_2 := blk_frozen BK265.out 2; have hfz29_3 := blk_frozen BK265.out 3) | (go_at_call 11; (with_reducible refine (ins_Size.calls k a0_0 t275 _ (HG.out.below (by first | exact Below.refl _ _ | (repeat (first | (with_reducible first | exact HB.out | apply below_alloc | apply pw_below_drewN | apply below_drew1 | refine below_set ?_ GE265.out | refine below_set ?_ GE274.out) | exact HB.out))) rfl) A18.out).mono ?_); rintro e w' ⟨rfl, ⟨nd, rfl⟩⟩))
              go_ret
              exact ⟨by first | rfl | (simp [errW_none, errW_some] <;> rfl) | (simp [*, errW_none, errW_some] <;> rfl), by repeat (first | (with_reducible first | exact HB.out | apply below_alloc | apply pw_below_drewN | apply below_drew1 | refine below_set ?_ GE265.out | refine below_set ?_ GE274.out) | exact HB.out)⟩
          · rw [if_neg c17] at H
            have c17b0 : (t272 == (t266.size : Int)) = false := beq_eq_false_iff_ne.mpr c17
            have c17b1 : (t272 != (t266.size : Int)) = true := bne_iff_ne.mpr c17
            obtain rfl := Option.some.inj H
            go_wp2_with (first | ((with_reducible refine gate_callee (f := 14) rfl ?_); refine goesL_ (some 25) rfl rfl Tryd.func14 (by kernel_rfl) rfl #[.string t266, .int .i64 0] rfl (by (try simp only [List.map_toArray, List.map_cons, List.map_nil]); first | done | rfl | (simp only [List.length_drop, List.length_take]; rfl)) ?_; (with_reducible refine (ins_Decode.calls k t266 0 t268 t269 t270 t271 t272 t273 _ (HG.out.below (by first | exact Below.refl _ _ | (repeat (first | (with_reducible first | exact HB.out | apply below_alloc | apply pw_below_drewN | apply below_drew1 | refine below_set ?_ GE265.out | refine below_set ?_ GE274.out) | exact HB.out))) rfl) A9.out).mono ?_); rintro e w30 ⟨rfl, hb⟩; refine ⟨_, rfl, ?_⟩; have n0_ := Aside0.mk (blk_below (g := gb265) (o := .cells #[.int .i64 a0_0, .int .i64 a0_1, .int .i64 a0_2, .int .i64 a0_3] 23 (0, 0)) (by (with_reducible repeat (first | refine blk_drewN ?_ _ | refine blk_drew ?_ | refine blk_alloc ?_ _)); exact BK265.out) hb); have n1_ := Aside0.mk (below_step (by repeat (first | (with_reducible first | exact HB.out | apply below_alloc | apply pw_below_drewN | apply below_drew1 | refine below_set ?_ GE265.out) | exact HB.out)) hb); clear BK265; clear HB; have BK265 := n0_; have HB := n1_; clear n0_ n1_; (try clear hb); (try clear hb2); (try clear hk); (try clear hi)) | ((with_reducible refine gate_dst (N := 7) rfl ?_); (try (refine gate_guard (by rfl) ?_; dsimp only)); refine box_event ?hg (N := 7) ?hd (cs := #[.int .i64 0, .int .i64 0, .int .i64 0, .int .i64 0]) (t := 23) ?hr ?_; (case hd => rfl); (case hg => rfl); (case hr => first | (go_simp; done) | (go_simp; rfl)); intro gb274 hg w31 hbox hb; have n0_ := Aside0.mk (blk_below (g := gb265) (o := .cells #[.int .i64 a0_0, .int .i64 a0_1, .int .i64 a0_2, .int .i64 a0_3] 23 (0, 0)) (by (with_reducible repeat (first | refine blk_drewN ?_ _ | refine blk_drew ?_ | refine blk_alloc ?_ _)); exact BK265.out) hb); have n1_ := Aside0.mk (below_step (by repeat (first | (with_reducible first | exact HB.out | apply below_alloc | apply pw_below_drewN | apply below_drew1 | refine below_set ?_ GE265.out) | exact HB.out)) hb); have n2_ := Aside0.mk (hbox); have n3_ := Aside0.mk ((by rw [hg]; exact (below_size (by repeat (first | (with_reducible first | exact HB.out | apply below_alloc | apply pw_below_drewN | apply below_drew1 | refine below_set ?_ GE265.out) | exact HB.out))) : w.heap.size ≤ gb274)); have n4_ := Aside0.mk ((by rw [hg]; exact (below_size (by repeat (first | (with_reducible first | exact HB.out | apply below_alloc | apply pw_below_drewN | apply below_drew1 | refine below_set ?_ GE265.out) | exact HB.out))) : w.heap.size ≤ gb274)); have n5_ := Aside0.mk ((by rw [hg]; exact Nat.ne_of_lt (blk_lt (g := gb265) (o := .cells #[.int .i64 a0_0, .int .i64 a0_1, .int .i64 a0_2, .int .i64 a0_3] 23 (0, 0)) (by (with_reducible repeat (first | refine blk_drewN ?_ _ | refine blk_drew ?_ | refine blk_alloc ?_ _)); exact BK265.out)) : gb265 ≠ gb274)); have n6_ := Aside0.mk ((by rw [hg]; exact Nat.ne_of_gt (blk_lt (g := gb265) (o := .cells #[.int .i64 a0_0, .int .i64 a0_1, .int .i64 a0_2, .int .i64 a0_3] 23 (0, 0)) (by (with_reducible repeat (first | refine blk_drewN ?_ _ | refine blk_drew ?_ | refine blk_alloc ?_ _)); exact BK265.out)) : gb274 ≠ gb265)); clear BK265; clear HB; have BK265 := n0_; have HB := n1_; have BK274 := n2_; have GW274 := n3_; have GE274 := n4_; have NB265_274 := n5_; have NB274_265 := n6_; clear n0_ n1_ n2_ n3_ n4_ n5_ n6_; clear hb hbox hg; have hnb32 := NB274_265.out; have hnc32 := NB265_274.out; have hcz33_0 : w31.cell? ⟨gb274, 0, none⟩ = some (.int .i64 0) := (blk_cell BK274.out 0).trans rfl; have hcz33_1 : w31.cell? ⟨gb274, 1, none⟩ = some (.int .i64 0) := (blk_cell BK274.out 1).trans rfl; have hcz33_2 : w31.cell? ⟨gb274, 2, none⟩ = some (.int .i64 0) := (blk_cell BK274.out 2).trans rfl; have hcz33_3 : w31.cell? ⟨gb274, 3, none⟩ = some (.int .i64 0) := (blk_cell BK274.out 3).trans rfl; have hfz33_0 := blk_frozen BK274.out 0; have hfz33_1 := blk_frozen BK274.out 1; have hfz33_2 := blk_frozen BK274.out 2; have hfz33_3 := blk_frozen BK274.out 3; have hcz34_0 : w31.cell? ⟨gb265, 0, none⟩ = some (.int .i64 a0_0) := (blk_cell BK265.out 0).trans rfl; have hcz34_1 : w31.cell? ⟨gb265, 1, none⟩ = some (.int .i64 a0_1) := (blk_cell BK265.out 1).trans rfl; have hcz34_2 : w31.cell? ⟨gb265, 2, none⟩ = some (.int .i64 a0_2) := (blk_cell BK265.out 2).trans rfl; have hcz34_3 : w31.cell? ⟨gb265, 3, none⟩ = some (.int .i64 a0_3) := (blk_cell BK265.out 3).trans rfl; have hfz34_0 := blk_frozen BK265.out 0; have hfz34_1 := blk_frozen BK265.out 1; have hfz34_2 := blk_frozen BK265.out 2; have hfz34_3 := blk_frozen BK265.out 3))
            go_ret
            exact ⟨by first | rfl | (simp [errW_none, errW_some] <;> rfl) | (simp [*, errW_none, errW_some] <;> rfl), by repeat (first | (with_reducible first | exact HB.out | apply below_alloc | apply pw_below_drewN | apply below_drew1 | refine below_set ?_ GE265.out | refine below_set ?_ GE274.out) | exact HB.out)⟩
      · rw [if_neg c10] at H
        have c10b0 : (t273 == 0) = false := beq_eq_false_iff_ne.mpr c10
        have c10b1 : (t273 != 0) = true := bne_iff_ne.mpr c10
        obtain rfl := Option.some.inj H
        go_wp2_with (first | ((with_reducible refine gate_callee (f := 14) rfl ?_); refine goesL_ (some 25) rfl rfl Tryd.func14 (by kernel_rfl) rfl #[.string t266, .int .i64 0] rfl (by (try simp only [List.map_toArray, List.map_cons, List.map_nil]); first | done | rfl | (simp only [List.length_drop, List.length_take]; rfl)) ?_; (with_reducible refine (ins_Decode.calls k t266 0 t268 t269 t270 t271 t272 t273 _ (HG.out.below (by first | exact Below.refl _ _ | (repeat (first | (with_reducible first | exact HB.out | apply below_alloc | apply pw_below_drewN | apply below_drew1 | refine below_set ?_ GE265.out | refine below_set ?_ GE274.out) | exact HB.out))) rfl) A9.out).mono ?_); rintro e w35 ⟨rfl, hb⟩; refine ⟨_, rfl, ?_⟩; have n0_ := Aside0.mk (blk_below (g := gb265) (o := .cells #[.int .i64 a0_0, .int .i64 a0_1, .int .i64 a0_2, .int .i64 a0_3] 23 (0, 0)) (by (with_reducible repeat (first | refine blk_drewN ?_ _ | refine blk_drew ?_ | refine blk_alloc ?_ _)); exact BK265.out) hb); have n1_ := Aside0.mk (below_step (by repeat (first | (with_reducible first | exact HB.out | apply below_alloc | apply pw_below_drewN | apply below_drew1 | refine below_set ?_ GE265.out) | exact HB.out)) hb); clear BK265; clear HB; have BK265 := n0_; have HB := n1_; clear n0_ n1_; (try clear hb); (try clear hb2); (try clear hk); (try clear hi)) | ((with_reducible refine gate_dst (N := 7) rfl ?_); (try (refine gate_guard (by rfl) ?_; dsimp only)); refine box_event ?hg (N := 7) ?hd (cs := #[.int .i64 0, .int .i64 0, .int .i64 0, .int .i64 0]) (t := 23) ?hr ?_; (case hd => rfl); (case hg => rfl); (case hr => first | (go_simp; done) | (go_simp; rfl)); intro gb274 hg w36 hbox hb; have n0_ := Aside0.mk (blk_below (g := gb265) (o := .cells #[.int .i64 a0_0, .int .i64 a0_1, .int .i64 a0_2, .int .i64 a0_3] 23 (0, 0)) (by (with_reducible repeat (first | refine blk_drewN ?_ _ | refine blk_drew ?_ | refine blk_alloc ?_ _)); exact BK265.out) hb); have n1_ := Aside0.mk (below_step (by repeat (first | (with_reducible first | exact HB.out | apply below_alloc | apply pw_below_drewN | apply below_drew1 | refine below_set ?_ GE265.out) | exact HB.out)) hb); have n2_ := Aside0.mk (hbox); have n3_ := Aside0.mk ((by rw [hg]; exact (below_size (by repeat (first | (with_reducible first | exact HB.out | apply below_alloc | apply pw_below_drewN | apply below_drew1 | refine below_set ?_ GE265.out) | exact HB.out))) : w.heap.size ≤ gb274)); have n4_ := Aside0.mk ((by rw [hg]; exact (below_size (by repeat (first | (with_reducible first | exact HB.out | apply below_alloc | apply pw_below_drewN | apply below_drew1 | refine below_set ?_ GE265.out) | exact HB.out))) : w.heap.size ≤ gb274)); have n5_ := Aside0.mk ((by rw [hg]; exact Nat.ne_of_lt (blk_lt (g := gb265) (o := .cells #[.int .i64 a0_0, .int .i64 a0_1, .int .i64 a0_2, .int .i64 a0_3] 23 (0, 0)) (by (with_reducible repeat (first | refine blk_drewN ?_ _ | refine blk_drew ?_ | refine blk_alloc ?_ _)); exact BK265.out)) : gb265 ≠ gb274)); have n6_ := Aside0.mk ((by rw [hg]; exact Nat.ne_of_gt (blk_lt (g := gb265) (o := .cells #[.int .i64 a0_0, .int .i64 a0_1, .int .i64 a0_2, .int .i64 a0_3] 23 (0, 0)) (by (with_reducible repeat (first | refine blk_drewN ?_ _ | refine blk_drew ?_ | refine blk_alloc ?_ _)); exact BK265.out)) : gb274 ≠ gb265)); clear BK265; clear HB; have BK265 := n0_; have HB := n1_; have BK274 := n2_; have GW274 := n3_; have GE274 := n4_; have NB265_274 := n5_; have NB274_265 := n6_; clear n0_ n1_ n2_ n3_ n4_ n5_ n6_; clear hb hbox hg; have hnb37 := NB274_265.out; have hnc37 := NB265_274.out; have hcz38_0 : w36.cell? ⟨gb274, 0, none⟩ = some (.int .i64 0) := (blk_cell BK274.out 0).trans rfl; have hcz38_1 : w36.cell? ⟨gb274, 1, none⟩ = some (.int .i64 0) := (blk_cell BK274.out 1).trans rfl; have hcz38_2 : w36.cell? ⟨gb274, 2, none⟩ = some (.int .i64 0) := (blk_cell BK274.out 2).trans rfl; have hcz38_3 : w36.cell? ⟨gb274, 3, none⟩ = some (.int .i64 0) := (blk_cell BK274.out 3).trans rfl; have hfz38_0 := blk_frozen BK274.out 0; have hfz38_1 := blk_frozen BK274.out 1; have hfz38_2 := blk_frozen BK274.out 2; have hfz38_3 := blk_frozen BK274.out 3))
        go_ret
        exact ⟨by first | rfl | (simp [errW_none, errW_some] <;> rfl) | (simp [*, errW_none, errW_some] <;> rfl), by repeat (first | (with_reducible first | exact HB.out | apply below_alloc | apply pw_below_drewN | apply below_drew1 | refine below_set ?_ GE265.out | refine below_set ?_ GE274.out) | exact HB.out)⟩
    · rw [if_neg c8] at H
      have c8b0 : (t267 == 0) = false := beq_eq_false_iff_ne.mpr c8
      have c8b1 : (t267 != 0) = true := bne_iff_ne.mpr c8
      (first | rw [c8b0] | (simp only [i64_w, i32_w]; rw [c8b0]) | skip)
      have H' := Aside0.mk H
      clear H
      go_wp2
      go_meet
      case rel => exact ⟨_, H', ⟨by first | omega | exact Nat.le_refl _⟩, ⟨by (with_reducible repeat (first | refine blk_drewN ?_ _ | refine blk_drew ?_ | refine blk_alloc ?_ _)); exact BK265.out⟩, ⟨by repeat (first | (with_reducible first | exact HB.out | apply below_alloc | apply pw_below_drewN | apply below_drew1 | refine below_set ?_ GE265.out) | exact HB.out)⟩⟩
  case rest =>
    clear HC4
    try clear c1
    try clear c2
    try clear p2
    try clear c3
    try clear c6
    try clear c8
    try clear c8b0
    try clear c8b1
    try clear c9
    try clear c10
    try clear c10b0
    try clear c10b1
    try clear c11
    try clear c11b0
    try clear c14
    try clear c17
    try clear c17b0
    try clear c17b1
    try clear c19
    try clear c19b0
    try clear c19b1
    try clear c22
    try clear c27
    try clear c32
    try clear c37
    try clear hcz15_0
    try clear hcz15_1
    try clear hcz15_2
    try clear hcz15_3
    try clear hcz16_0
    try clear hcz16_1
    try clear hcz16_2
    try clear hcz16_3
    try clear hcz23_0
    try clear hcz23_1
    try clear hcz23_2
    try clear hcz23_3
    try clear hcz24_0
    try clear hcz24_1
    try clear hcz24_2
    try clear hcz24_3
    try clear hcz28_0
    try clear hcz28_1
    try clear hcz28_2
    try clear hcz28_3
    try clear hcz29_0
    try clear hcz29_1
    try clear hcz29_2
    try clear hcz29_3
    try clear hcz33_0
    try clear hcz33_1
    try clear hcz33_2
    try clear hcz33_3
    try clear hcz34_0
    try clear hcz34_1
    try clear hcz34_2
    try clear hcz34_3
    try clear hcz38_0
    try clear hcz38_1
    try clear hcz38_2
    try clear hcz38_3
    try clear hcz6_0
    try clear hcz6_1
    try clear hcz6_2
    try clear hcz6_3
    try clear hfz15_0
    try clear hfz15_1
    try clear hfz15_2
    try clear hfz15_3
    try clear hfz16_0
    try clear hfz16_1
    try clear hfz16_2
    try clear hfz16_3
    try clear hfz23_0
    try clear hfz23_1
    try clear hfz23_2
    try clear hfz23_3
    try clear hfz24_0
    try clear hfz24_1
    try clear hfz24_2
    try clear hfz24_3
    try clear hfz28_0
    try clear hfz28_1
    try clear hfz28_2
    try clear hfz28_3
    try clear hfz29_0
    try clear hfz29_1
    try clear hfz29_2
    try clear hfz29_3
    try clear hfz33_0
    try clear hfz33_1
    try clear hfz33_2
    try clear hfz33_3
    try clear hfz34_0
    try clear hfz34_1
    try clear hfz34_2
    try clear hfz34_3
    try clear hfz38_0
    try clear hfz38_1
    try clear hfz38_2
    try clear hfz38_3
    try clear hfz6_0
    try clear hfz6_1
    try clear hfz6_2
    try clear hfz6_3
    obtain ⟨kq, HA, HJ3, BK265, HB⟩ := hcut
    cases kq with
    | zero => exact absurd HA.out (by simp [cotterlaw03_InsBack.j0])
    | succ kj3 =>
      have H := HA.out
      clear HA
      simp only [cotterlaw03_InsBack.j0] at H
      replace H := Option.bind_eq_some_iff.mp H
      obtain ⟨⟨t276, t277⟩, A390, H⟩ := H
      replace H : (if t277 = 0 then (cotterlaw03_InsBack.l0 kj3 a1 t276 (⟨#[]⟩ : ByteArray) 0) else (if (t276.length : Int) = 0 then ((cotterlaw03_live.f kj3).bind fun t280 => (some t280)) else (some false))) = some r := H
      have A39 := Aside0.mk A390
      clear A390
      by_cases c40 : t277 = 0
      · rw [if_pos c40] at H
        have c40b0 : (t277 == 0) = true := beq_iff_eq.mpr c40
        have c40b1 : (t277 != 0) = false := bne_eq_false_iff_eq.mpr c40
        clear c40
        have H' := Aside0.mk H
        clear H
        go_wp2_with (first | ((with_reducible refine gate_callee (f := 16) rfl ?_); refine goesL_ (some 52) rfl rfl Tryd.func16 (by kernel_rfl) rfl #[.string a1] rfl (by (try simp only [List.map_toArray, List.map_cons, List.map_nil]); first | done | rfl | (simp only [List.length_drop, List.length_take]; rfl)) ?_; (with_reducible refine (ins_All.calls kj3 a1 t276 t277 _ (HG.out.below (by first | exact Below.refl _ _ | (repeat (first | (with_reducible first | exact HB.out | apply below_alloc | apply pw_below_drewN | apply below_drew1 | refine below_set ?_ GE265.out | refine below_set ?_ GE274.out) | exact HB.out))) rfl) A39.out).mono ?_); rintro e w41 ⟨v278, rfl, ho0, hb⟩; refine ⟨_, rfl, ?_⟩; have n0_ := Aside0.mk (Kd.R_lower (Kd.R_newB ho0 (g := gb265) (o := .cells #[.int .i64 a0_0, .int .i64 a0_1, .int .i64 a0_2, .int .i64 a0_3] 23 (0, 0)) (by (with_reducible repeat (first | refine blk_drewN ?_ _ | refine blk_drew ?_ | refine blk_alloc ?_ _)); exact BK265.out)) (below_size (by repeat (first | (with_reducible first | exact HB.out | apply below_alloc | apply pw_below_drewN | apply below_drew1 | refine below_set ?_ GE265.out) | exact HB.out)))); have n1_ := Aside0.mk (blk_below (g := gb265) (o := .cells #[.int .i64 a0_0, .int .i64 a0_1, .int .i64 a0_2, .int .i64 a0_3] 23 (0, 0)) (by (with_reducible repeat (first | refine blk_drewN ?_ _ | refine blk_drew ?_ | refine blk_alloc ?_ _)); exact BK265.out) hb); have n2_ := Aside0.mk (below_step (by repeat (first | (with_reducible first | exact HB.out | apply below_alloc | apply pw_below_drewN | apply below_drew1 | refine below_set ?_ GE265.out) | exact HB.out)) hb); clear BK265; clear HB; have HO279 := n0_; have BK265 := n1_; have HB := n2_; clear n0_ n1_ n2_; (try clear hb); (try clear hb2); (try clear hk); (try clear hi); (try clear ho0)))
        go_loopg [12, 13] kj3 (fun kq v12 v13 w' => ∃ (x12_2 : ByteArray) (x13_2 : Int), v12 = .string x12_2 ∧ v13 = .int .i64 x13_2 ∧ Aside0 (cotterlaw03_InsBack.l0 kq a1 t276 x12_2 x13_2 = some r) ∧ Aside0 (kq ≤ kj3) ∧ Aside0 (Kd.R k23 23 w' w.heap.size (fun k_ => k_ ≠ gb265) v278 t276) ∧ Aside0 (w'.heap[gb265]? = some (.cells #[.int .i64 a0_0, .int .i64 a0_1, .int .i64 a0_2, .int .i64 a0_3] 23 (0, 0))) ∧ Aside0 (Below w.heap.size w w'))
        case atStart => exact ⟨((⟨#[]⟩ : ByteArray)), (0), (by first | rfl | (simp; done) | (simp [*]; done)), (by first | rfl | (simp; done) | (simp [*]; done)), H', ⟨Nat.le_refl _⟩, ⟨by (with_reducible repeat (first | apply Kd.R_alloc | apply Kd.R_drewN | apply Kd.R_drew)); exact Kd.R_mono HO279.out (fun _ hk => hk.2)⟩, ⟨by (with_reducible repeat (first | refine blk_drewN ?_ _ | refine blk_drew ?_ | refine blk_alloc ?_ _)); exact BK265.out⟩, ⟨by repeat (first | (with_reducible first | exact HB.out | apply below_alloc | apply pw_below_drewN | apply below_drew1 | refine below_set ?_ GE265.out) | exact HB.out)⟩⟩
        case round =>
          clear H'
          try clear c1
          try clear c2
          try clear p2
          try clear c3
          try clear c4
          try clear c6
          try clear c8
          try clear c8b0
          try clear c8b1
          try clear c9
          try clear c10
          try clear c10b0
          try clear c10b1
          try clear c11
          try clear c11b0
          try clear c14
          try clear c16
          try clear c17
          try clear c17b0
          try clear c17b1
          try clear c19
          try clear c19b0
          try clear c19b1
          try clear c22
          try clear c27
          try clear c32
          try clear c37
          try clear c40
          try clear c40b0
          try clear c40b1
          try clear hcz15_0
          try clear hcz15_1
          try clear hcz15_2
          try clear hcz15_3
          try clear hcz16_0
          try clear hcz16_1
          try clear hcz16_2
          try clear hcz16_3
          try clear hcz23_0
          try clear hcz23_1
          try clear hcz23_2
          try clear hcz23_3
          try clear hcz24_0
          try clear hcz24_1
          try clear hcz24_2
          try clear hcz24_3
          try clear hcz28_0
          try clear hcz28_1
          try clear hcz28_2
          try clear hcz28_3
          try clear hcz29_0
          try clear hcz29_1
          try clear hcz29_2
          try clear hcz29_3
          try clear hcz33_0
          try clear hcz33_1
          try clear hcz33_2
          try clear hcz33_3
          try clear hcz34_0
          try clear hcz34_1
          try clear hcz34_2
          try clear hcz34_3
          try clear hcz38_0
          try clear hcz38_1
          try clear hcz38_2
          try clear hcz38_3
          try clear hcz6_0
          try clear hcz6_1
          try clear hcz6_2
          try clear hcz6_3
          try clear hfz15_0
          try clear hfz15_1
          try clear hfz15_2
          try clear hfz15_3
          try clear hfz16_0
          try clear hfz16_1
          try clear hfz16_2
          try clear hfz16_3
          try clear hfz23_0
          try clear hfz23_1
          try clear hfz23_2
          try clear hfz23_3
          try clear hfz24_0
          try clear hfz24_1
          try clear hfz24_2
          try clear hfz24_3
          try clear hfz28_0
          try clear hfz28_1
          try clear hfz28_2
          try clear hfz28_3
          try clear hfz29_0
          try clear hfz29_1
          try clear hfz29_2
          try clear hfz29_3
          try clear hfz33_0
          try clear hfz33_1
          try clear hfz33_2
          try clear hfz33_3
          try clear hfz34_0
          try clear hfz34_1
          try clear hfz34_2
          try clear hfz34_3
          try clear hfz38_0
          try clear hfz38_1
          try clear hfz38_2
          try clear hfz38_3
          try clear hfz6_0
          try clear hfz6_1
          try clear hfz6_2
          try clear hfz6_3
          try clear p2
          obtain ⟨x12_2, x13_2, rfl, rfl, HA, HK2, HO_10, BK265, HB⟩ := hrel
          cases gk with
          | zero => exact absurd HA.out (by simp [cotterlaw03_InsBack.l0])
          | succ k2 =>
            have H := HA.out
            clear HA
            simp only [cotterlaw03_InsBack.l0] at H
            by_cases c42 : x13_2 < (t276.length : Int)
            · rw [if_pos c42] at H
              have c42b0 : decide (x13_2 < (t276.length : Int)) = true := decide_eq_true c42
              clear c42
              by_cases c43 : 0 ≤ x13_2
              · rw [if_pos c43] at H
                have c43b0 : decide (0 ≤ x13_2) = true := decide_eq_true c43
                clear c43
                replace H := Option.bind_eq_some_iff.mp H
                obtain ⟨⟨t282, t283⟩, A440, H⟩ := H
                replace H : (if t283 = 0 then (if x12_2.size + t282.size ≤ 9223372036854775807 then (cotterlaw03_InsBack.l0 k2 a1 t276 (x12_2 ++ t282) (wrap64 (x13_2 + 1))) else (none)) else (some false)) = some r := H
                have A44 := Aside0.mk A440
                clear A440
                by_cases c45 : t283 = 0
                · rw [if_pos c45] at H
                  have c45b0 : (t283 == 0) = true := beq_iff_eq.mpr c45
                  have c45b1 : (t283 != 0) = false := bne_eq_false_iff_eq.mpr c45
                  clear c45
                  by_cases c46 : x12_2.size + t282.size ≤ 9223372036854775807
                  · rw [if_pos c46] at H
                    have c46b0 := eq_true c46
                    have c46b1 : decide (x12_2.size + t282.size ≤ 9223372036854775807) = true := decide_eq_true c46
                    try have c46b2 : (9223372036854775807 < x12_2.size + t282.size) = False := eq_false (Nat.not_lt.2 c46)
                    have H' := Aside0.mk H
                    clear H
                    obtain ⟨Ao47, co47, eo47⟩ := Kd.R_slice HO_10.out
                    subst eo47
                    have p281 : 0 ≤ (x13_2 : Int) := of_decide_eq_true (by first | (with_reducible assumption) | assumption)
                    have q281 : x13_2 < (t276.length : Int) := of_decide_eq_true (by first | (with_reducible assumption) | assumption)
                    obtain ⟨ad281, e281, hx281_0, hx281_1, hx281_2, hx281_3⟩ := at_T23 (Kd.R_reads' HO_10.out).2.2 x13_2 p281 q281
                    cases e281
                    replace p281 := eq_true p281
                    replace q281 := eq_true q281
                    go_wp2_with (first | ((with_reducible refine gate_callee (f := 9) rfl ?_); refine goesL_ (some 74) rfl rfl Tryd.func9 (by kernel_rfl) rfl #[.agg #[.int .i64 ((rd_T23 t276 x13_2).f0), .int .i64 ((rd_T23 t276 x13_2).f1), .int .i64 ((rd_T23 t276 x13_2).f2), .int .i64 ((rd_T23 t276 x13_2).f3)]] rfl (by (try simp only [List.map_toArray, List.map_cons, List.map_nil]); first | done | rfl | (simp only [List.length_drop, List.length_take]; rfl)) ?_; (with_reducible refine (ins_Encode.calls k2 ((rd_T23 t276 x13_2).f0) ((rd_T23 t276 x13_2).f1) ((rd_T23 t276 x13_2).f2) ((rd_T23 t276 x13_2).f3) t282 t283 _ (HG.out.below (by first | exact Below.refl _ _ | (repeat (first | (with_reducible first | exact HB.out | apply below_alloc | apply pw_below_drewN | apply below_drew1 | refine below_set ?_ GE265.out | refine below_set ?_ GE274.out) | exact HB.out))) rfl) A44.out).mono ?_); rintro e w48 ⟨rfl, hb⟩; refine ⟨_, rfl, ?_⟩; have n0_ := Aside0.mk (Kd.R_below (by (with_reducible repeat (first | apply Kd.R_alloc | apply Kd.R_drewN | apply Kd.R_drew)); exact HO_10.out) hb); have n1_ := Aside0.mk (blk_below (g := gb265) (o := .cells #[.int .i64 a0_0, .int .i64 a0_1, .int .i64 a0_2, .int .i64 a0_3] 23 (0, 0)) (by (with_reducible repeat (first | refine blk_drewN ?_ _ | refine blk_drew ?_ | refine blk_alloc ?_ _)); exact BK265.out) hb); have n2_ := Aside0.mk (below_step (by repeat (first | (with_reducible first | exact HB.out | apply below_alloc | apply pw_below_drewN | apply below_drew1 | refine below_set ?_ GE265.out) | exact HB.out)) hb); clear HO_10; clear BK265; clear HB; have HO_10 := n0_; have BK265 := n1_; have HB := n2_; clear n0_ n1_ n2_; (try clear hb); (try clear hb2); (try clear hk); (try clear hi)))
                    go_roundg k2
                    case measure => have := HJ3.out; have := HK2.out; omega
                    case rel => exact ⟨(x12_2 ++ t282), (wrap64 (x13_2 + 1)), (by first | rfl | (simp; done) | (simp [*]; done)), (by first | rfl | (simp; done) | (simp [*]; done)), H', ⟨by have := HJ3.out; have := HK2.out; omega⟩, ⟨by (with_reducible repeat (first | apply Kd.R_alloc | apply Kd.R_drewN | apply Kd.R_drew)); exact HO_10.out⟩, ⟨by (with_reducible repeat (first | refine blk_drewN ?_ _ | refine blk_drew ?_ | refine blk_alloc ?_ _)); exact BK265.out⟩, ⟨by repeat (first | (with_reducible first | exact HB.out | apply below_alloc | apply pw_below_drewN | apply below_drew1 | refine below_set ?_ GE265.out) | exact HB.out)⟩⟩
                  · rw [if_neg c46] at H
                    exact absurd H (by simp)
                · rw [if_neg c45] at H
                  have c45b0 : (t283 == 0) = false := beq_eq_false_iff_ne.mpr c45
                  have c45b1 : (t283 != 0) = true := bne_iff_ne.mpr c45
                  obtain rfl := Option.some.inj H
                  obtain ⟨Ao49, co49, eo49⟩ := Kd.R_slice HO_10.out
                  subst eo49
                  have p281 : 0 ≤ (x13_2 : Int) := of_decide_eq_true (by first | (with_reducible assumption) | assumption)
                  have q281 : x13_2 < (t276.length : Int) := of_decide_eq_true (by first | (with_reducible assumption) | assumption)
                  obtain ⟨ad281, e281, hx281_0, hx281_1, hx281_2, hx281_3⟩ := at_T23 (Kd.R_reads' HO_10.out).2.2 x13_2 p281 q281
                  cases e281
                  replace p281 := eq_true p281
                  replace q281 := eq_true q281
                  go_wp2_with (first | ((with_reducible refine gate_callee (f := 9) rfl ?_); refine goesL_ (some 74) rfl rfl Tryd.func9 (by kernel_rfl) rfl #[.agg #[.int .i64 ((rd_T23 t276 x13_2).f0), .int .i64 ((rd_T23 t276 x13_2).f1), .int .i64 ((rd_T23 t276 x13_2).f2), .int .i64 ((rd_T23 t276 x13_2).f3)]] rfl (by (try simp only [List.map_toArray, List.map_cons, List.map_nil]); first | done | rfl | (simp only [List.length_drop, List.length_take]; rfl)) ?_; (with_reducible refine (ins_Encode.calls k2 ((rd_T23 t276 x13_2).f0) ((rd_T23 t276 x13_2).f1) ((rd_T23 t276 x13_2).f2) ((rd_T23 t276 x13_2).f3) t282 t283 _ (HG.out.below (by first | exact Below.refl _ _ | (repeat (first | (with_reducible first | exact HB.out | apply below_alloc | apply pw_below_drewN | apply below_drew1 | refine below_set ?_ GE265.out | refine below_set ?_ GE274.out) | exact HB.out))) rfl) A44.out).mono ?_); rintro e w50 ⟨rfl, hb⟩; refine ⟨_, rfl, ?_⟩; have n0_ := Aside0.mk (Kd.R_below (by (with_reducible repeat (first | apply Kd.R_alloc | apply Kd.R_drewN | apply Kd.R_drew)); exact HO_10.out) hb); have n1_ := Aside0.mk (blk_below (g := gb265) (o := .cells #[.int .i64 a0_0, .int .i64 a0_1, .int .i64 a0_2, .int .i64 a0_3] 23 (0, 0)) (by (with_reducible repeat (first | refine blk_drewN ?_ _ | refine blk_drew ?_ | refine blk_alloc ?_ _)); exact BK265.out) hb); have n2_ := Aside0.mk (below_step (by repeat (first | (with_reducible first | exact HB.out | apply below_alloc | apply pw_below_drewN | apply below_drew1 | refine below_set ?_ GE265.out) | exact HB.out)) hb); clear HO_10; clear BK265; clear HB; have HO_10 := n0_; have BK265 := n1_; have HB := n2_; clear n0_ n1_ n2_; (try clear hb); (try clear hb2); (try clear hk); (try clear hi)))
                  go_ret
                  exact ⟨by first | rfl | (simp [errW_none, errW_some] <;> rfl) | (simp [*, errW_none, errW_some] <;> rfl), by repeat (first | (with_reducible first | exact HB.out | apply below_alloc | apply pw_below_drewN | apply below_drew1 | refine below_set ?_ GE265.out) | exact HB.out)⟩
              · rw [if_neg c43] at H
                exact absurd H (by simp)
            · rw [if_neg c42] at H
              have c42b0 : decide (x13_2 < (t276.length : Int)) = false := decide_eq_false c42
              clear c42
              by_cases c51 : x12_2.toList = a1.toList
              · rw [if_pos c51] at H
                have c51b0 : (x12_2.toList == a1.toList) = true := beq_iff_eq.mpr c51
                have c51b1 : (x12_2.toList != a1.toList) = false := bne_eq_false_iff_eq.mpr c51
                clear c51
                replace H := Option.bind_eq_some_iff.mp H
                obtain ⟨t284, A520, H⟩ := H
                replace H : (some t284) = some r := H
                have A52 := Aside0.mk A520
                clear A520
                obtain rfl := Option.some.inj H
                obtain ⟨Ao53, co53, eo53⟩ := Kd.R_slice HO_10.out
                subst eo53
                go_wp2_with (first | (go_at_call 13; (with_reducible refine (cotterlaw03_live.calls k2  t284 _ (HG.out.below (by first | exact Below.refl _ _ | (repeat (first | (with_reducible first | exact HB.out | apply below_alloc | apply pw_below_drewN | apply below_drew1 | refine below_set ?_ GE265.out | refine below_set ?_ GE274.out) | exact HB.out))) rfl) A52.out).mono ?_); rintro e w54 ⟨rfl, hb⟩; have n0_ := Aside0.mk (Kd.R_below (by (with_reducible repeat (first | apply Kd.R_alloc | apply Kd.R_drewN | apply Kd.R_drew)); exact HO_10.out) hb); have n1_ := Aside0.mk (blk_below (g := gb265) (o := .cells #[.int .i64 a0_0, .int .i64 a0_1, .int .i64 a0_2, .int .i64 a0_3] 23 (0, 0)) (by (with_reducible repeat (first | refine blk_drewN ?_ _ | refine blk_drew ?_ | refine blk_alloc ?_ _)); exact BK265.out) hb); have n2_ := Aside0.mk (below_step (by repeat (first | (with_reducible first | exact HB.out | apply below_alloc | apply pw_below_drewN | apply below_drew1 | refine below_set ?_ GE265.out) | exact HB.out)) hb); clear HO_10; clear BK265; clear HB; have HO_10 := n0_; have BK265 := n1_; have HB := n2_; clear n0_ n1_ n2_; (try clear hb); (try clear hb2); (try clear hk); (try clear hi)))
                go_ret
                exact ⟨by first | rfl | (simp [errW_none, errW_some] <;> rfl) | (simp [*, errW_none, errW_some] <;> rfl), by repeat (first | (with_reducible first | exact HB.out | apply below_alloc | apply pw_below_drewN | apply below_drew1 | refine below_set ?_ GE265.out) | exact HB.out)⟩
              · rw [if_neg c51] at H
                have c51b0 : (x12_2.toList == a1.toList) = false := beq_eq_false_iff_ne.mpr c51
                have c51b1 : (x12_2.toList != a1.toList) = true := bne_iff_ne.mpr c51
                obtain rfl := Option.some.inj H
                obtain ⟨Ao55, co55, eo55⟩ := Kd.R_slice HO_10.out
                subst eo55
                go_wp2
                go_ret
                exact ⟨by first | rfl | (simp [errW_none, errW_some] <;> rfl) | (simp [*, errW_none, errW_some] <;> rfl), by repeat (first | (with_reducible first | exact HB.out | apply below_alloc | apply pw_below_drewN | apply below_drew1 | refine below_set ?_ GE265.out) | exact HB.out)⟩
      · rw [if_neg c40] at H
        have c40b0 : (t277 == 0) = false := beq_eq_false_iff_ne.mpr c40
        have c40b1 : (t277 != 0) = true := bne_iff_ne.mpr c40
        by_cases c56 : (t276.length : Int) = 0
        · rw [if_pos c56] at H
          have c56b0 : ((t276.length : Int) == 0) = true := beq_iff_eq.mpr c56
          have c56b1 : ((t276.length : Int) != 0) = false := bne_eq_false_iff_eq.mpr c56
          clear c56
          replace H := Option.bind_eq_some_iff.mp H
          obtain ⟨t280, A570, H⟩ := H
          replace H : (some t280) = some r := H
          have A57 := Aside0.mk A570
          clear A570
          obtain rfl := Option.some.inj H
          go_wp2_with (first | ((with_reducible refine gate_callee (f := 16) rfl ?_); refine goesL_ (some 52) rfl rfl Tryd.func16 (by kernel_rfl) rfl #[.string a1] rfl (by (try simp only [List.map_toArray, List.map_cons, List.map_nil]); first | done | rfl | (simp only [List.length_drop, List.length_take]; rfl)) ?_; (with_reducible refine (ins_All.calls kj3 a1 t276 t277 _ (HG.out.below (by first | exact Below.refl _ _ | (repeat (first | (with_reducible first | exact HB.out | apply below_alloc | apply pw_below_drewN | apply below_drew1 | refine below_set ?_ GE265.out | refine below_set ?_ GE274.out) | exact HB.out))) rfl) A39.out).mono ?_); rintro e w58 ⟨v278, rfl, ho0, hb⟩; refine ⟨_, rfl, ?_⟩; have n0_ := Aside0.mk (Kd.R_lower (Kd.R_newB ho0 (g := gb265) (o := .cells #[.int .i64 a0_0, .int .i64 a0_1, .int .i64 a0_2, .int .i64 a0_3] 23 (0, 0)) (by (with_reducible repeat (first | refine blk_drewN ?_ _ | refine blk_drew ?_ | refine blk_alloc ?_ _)); exact BK265.out)) (below_size (by repeat (first | (with_reducible first | exact HB.out | apply below_alloc | apply pw_below_drewN | apply below_drew1 | refine below_set ?_ GE265.out) | exact HB.out)))); have n1_ := Aside0.mk (blk_below (g := gb265) (o := .cells #[.int .i64 a0_0, .int .i64 a0_1, .int .i64 a0_2, .int .i64 a0_3] 23 (0, 0)) (by (with_reducible repeat (first | refine blk_drewN ?_ _ | refine blk_drew ?_ | refine blk_alloc ?_ _)); exact BK265.out) hb); have n2_ := Aside0.mk (below_step (by repeat (first | (with_reducible first | exact HB.out | apply below_alloc | apply pw_below_drewN | apply below_drew1 | refine below_set ?_ GE265.out) | exact HB.out)) hb); clear BK265; clear HB; have HO279 := n0_; have BK265 := n1_; have HB := n2_; clear n0_ n1_ n2_; (try clear hb); (try clear hb2); (try clear hk); (try clear hi); (try clear ho0); obtain ⟨Ao59, co59, eo59⟩ := Kd.R_slice HO279.out; subst eo59) | (go_at_call 13; (with_reducible refine (cotterlaw03_live.calls kj3  t280 _ (HG.out.below (by first | exact Below.refl _ _ | (repeat (first | (with_reducible first | exact HB.out | apply below_alloc | apply pw_below_drewN | apply below_drew1 | refine below_set ?_ GE265.out | refine below_set ?_ GE274.out) | exact HB.out))) rfl) A57.out).mono ?_); rintro e w60 ⟨rfl, hb⟩; have n0_ := Aside0.mk (Kd.R_below (by (with_reducible repeat (first | apply Kd.R_alloc | apply Kd.R_drewN | apply Kd.R_drew)); exact HO279.out) hb); have n1_ := Aside0.mk (blk_below (g := gb265) (o := .cells #[.int .i64 a0_0, .int .i64 a0_1, .int .i64 a0_2, .int .i64 a0_3] 23 (0, 0)) (by (with_reducible repeat (first | refine blk_drewN ?_ _ | refine blk_drew ?_ | refine blk_alloc ?_ _)); exact BK265.out) hb); have n2_ := Aside0.mk (below_step (by repeat (first | (with_reducible first | exact HB.out | apply below_alloc | apply pw_below_drewN | apply below_drew1 | refine below_set ?_ GE265.out) | exact HB.out)) hb); clear HO279; clear BK265; clear HB; have HO279 := n0_; have BK265 := n1_; have HB := n2_; clear n0_ n1_ n2_; (try clear hb); (try clear hb2); (try clear hk); (try clear hi)))
          go_ret
          exact ⟨by first | rfl | (simp [errW_none, errW_some] <;> rfl) | (simp [*, errW_none, errW_some] <;> rfl), by repeat (first | (with_reducible first | exact HB.out | apply below_alloc | apply pw_below_drewN | apply below_drew1 | refine below_set ?_ GE265.out) | exact HB.out)⟩
        · rw [if_neg c56] at H
          have c56b0 : ((t276.length : Int) == 0) = false := beq_eq_false_iff_ne.mpr c56
          have c56b1 : ((t276.length : Int) != 0) = true := bne_iff_ne.mpr c56
          have c56b2 : ¬ (t276 = []) := fun h_ => c56 (by rw [h_]; rfl)
          obtain rfl := Option.some.inj H
          go_wp2_with (first | ((with_reducible refine gate_callee (f := 16) rfl ?_); refine goesL_ (some 52) rfl rfl Tryd.func16 (by kernel_rfl) rfl #[.string a1] rfl (by (try simp only [List.map_toArray, List.map_cons, List.map_nil]); first | done | rfl | (simp only [List.length_drop, List.length_take]; rfl)) ?_; (with_reducible refine (ins_All.calls kj3 a1 t276 t277 _ (HG.out.below (by first | exact Below.refl _ _ | (repeat (first | (with_reducible first | exact HB.out | apply below_alloc | apply pw_below_drewN | apply below_drew1 | refine below_set ?_ GE265.out | refine below_set ?_ GE274.out) | exact HB.out))) rfl) A39.out).mono ?_); rintro e w61 ⟨v278, rfl, ho0, hb⟩; refine ⟨_, rfl, ?_⟩; have n0_ := Aside0.mk (Kd.R_lower (Kd.R_newB ho0 (g := gb265) (o := .cells #[.int .i64 a0_0, .int .i64 a0_1, .int .i64 a0_2, .int .i64 a0_3] 23 (0, 0)) (by (with_reducible repeat (first | refine blk_drewN ?_ _ | refine blk_drew ?_ | refine blk_alloc ?_ _)); exact BK265.out)) (below_size (by repeat (first | (with_reducible first | exact HB.out | apply below_alloc | apply pw_below_drewN | apply below_drew1 | refine below_set ?_ GE265.out) | exact HB.out)))); have n1_ := Aside0.mk (blk_below (g := gb265) (o := .cells #[.int .i64 a0_0, .int .i64 a0_1, .int .i64 a0_2, .int .i64 a0_3] 23 (0, 0)) (by (with_reducible repeat (first | refine blk_drewN ?_ _ | refine blk_drew ?_ | refine blk_alloc ?_ _)); exact BK265.out) hb); have n2_ := Aside0.mk (below_step (by repeat (first | (with_reducible first | exact HB.out | apply below_alloc | apply pw_below_drewN | apply below_drew1 | refine below_set ?_ GE265.out) | exact HB.out)) hb); clear BK265; clear HB; have HO279 := n0_; have BK265 := n1_; have HB := n2_; clear n0_ n1_ n2_; (try clear hb); (try clear hb2); (try clear hk); (try clear hi); (try clear ho0); obtain ⟨Ao62, co62, eo62⟩ := Kd.R_slice HO279.out; subst eo62))
          go_ret
          exact ⟨by first | rfl | (simp [errW_none, errW_some] <;> rfl) | (simp [*, errW_none, errW_some] <;> rfl), by repeat (first | (with_reducible first | exact HB.out | apply below_alloc | apply pw_below_drewN | apply below_drew1 | refine below_set ?_ GE265.out) | exact HB.out)⟩

end Go.Proofs.YthmheblilgegcaaDoor.M
