-- Written by a program of this session (wip/ownprint.py) over the translation. Lean checks it.
import Derived.Test.YthmheblilgegcaaDoorM0
import Derived.Test.YthmheblilgegcaaDoorM2
import Derived.Test.YthmheblilgegcaaDoorM3
namespace Go.Proofs.YthmheblilgegcaaDoor.M
open Go.RowKit Go.Proofs.YthmheblilgegcaaDoorW.PrintWords Go.Proofs.YthmheblilgegcaaDoorW.PrintLast
set_option linter.unusedVariables false
set_option linter.unusedSimpArgs false

/-! ### ins_Encode: function 9 -/
mutual
def ins_Encode.j0 : Nat → Int → Int → Bool → Int → Int → Int → Int → Option (ByteArray × Int)
  | 0, _, _, _, _, _, _, _ => none
  | k + 1, x4, x5, x55, x106000, x106001, x106002, x106003 => if x55 = true then (some ((⟨#[]⟩ : ByteArray), 1)) else ((some (([(x106000) % 256] : List Int) : List Int)).bind fun y114 => (if x5 = 1 then (if y114.length < 140737488355328 then (ins_Encode.j1 k x4 (y114 ++ [(x106001) % 256]) x106000 x106001 x106002 x106003) else (none)) else (if x5 = 2 then (if y114.length < 140737488355328 then (ins_Encode.j1 k x4 (y114 ++ [(Go.bits .or .i64 (wrap64 (x106001 * 16)) x106002) % 256]) x106000 x106001 x106002 x106003) else (none)) else (ins_Encode.j1 k x4 y114 x106000 x106001 x106002 x106003))))
def ins_Encode.j1 : Nat → Int → List Int → Int → Int → Int → Int → Option (ByteArray × Int)
  | 0, _, _, _, _, _, _ => none
  | k + 1, x4, x6, x106000, x106001, x106002, x106003 => if x4 = 10 then (ins_Encode.j2 k x4 x6 (decide (x106003 < 0)) x106000 x106001 x106002 x106003) else (ins_Encode.j2 k x4 x6 false x106000 x106001 x106002 x106003)
def ins_Encode.j2 : Nat → Int → List Int → Bool → Int → Int → Int → Int → Option (ByteArray × Int)
  | 0, _, _, _, _, _, _, _ => none
  | k + 1, x4, x6, x87, x106000, x106001, x106002, x106003 => if x87 = true then (some ((⟨#[]⟩ : ByteArray), 7)) else ((ins_shape_width.f k x4).bind fun t123 => (if t123 > 0 then ((ins_shape_width.f k x4).bind fun t124 => ((word_Bytes.f k x106003 t124).bind fun bt125 => (if bt125.2 = 0 then (if x6.length + bt125.1.size < 140737488355328 then (some (strOfNums (x6 ++ bytesOf bt125.1), 0)) else (none)) else (some ((⟨#[]⟩ : ByteArray), bt125.2))))) else (some (strOfNums x6, 0))))
end
def ins_Encode.f (k : Nat) (a0_0 : Int) (a0_1 : Int) (a0_2 : Int) (a0_3 : Int) : Option (ByteArray × Int) := (ins_shapeOf.f a0_0).bind fun t106 => ((ins_shape_registers.f k t106).bind fun t107 => (if t106 = 0 then (ins_Encode.j0 k t106 t107 true a0_0 a0_1 a0_2 a0_3) else ((ins_isRegister.f a0_1).bind fun t108 => (if t108 = true then ((ins_isRegister.f a0_2).bind fun t109 => (if t109 = true then (if t107 < 2 then (if a0_2 = 0 then (if t107 < 1 then (if a0_1 = 0 then ((ins_shape_width.f k t106).bind fun t110 => (if t110 = 0 then (ins_Encode.j0 k t106 t107 (a0_3 != 0) a0_0 a0_1 a0_2 a0_3) else (ins_Encode.j0 k t106 t107 false a0_0 a0_1 a0_2 a0_3))) else (ins_Encode.j0 k t106 t107 true a0_0 a0_1 a0_2 a0_3)) else ((ins_shape_width.f k t106).bind fun t111 => (if t111 = 0 then (ins_Encode.j0 k t106 t107 (a0_3 != 0) a0_0 a0_1 a0_2 a0_3) else (ins_Encode.j0 k t106 t107 false a0_0 a0_1 a0_2 a0_3)))) else (ins_Encode.j0 k t106 t107 true a0_0 a0_1 a0_2 a0_3)) else (if t107 < 1 then (if a0_1 = 0 then ((ins_shape_width.f k t106).bind fun t112 => (if t112 = 0 then (ins_Encode.j0 k t106 t107 (a0_3 != 0) a0_0 a0_1 a0_2 a0_3) else (ins_Encode.j0 k t106 t107 false a0_0 a0_1 a0_2 a0_3))) else (ins_Encode.j0 k t106 t107 true a0_0 a0_1 a0_2 a0_3)) else ((ins_shape_width.f k t106).bind fun t113 => (if t113 = 0 then (ins_Encode.j0 k t106 t107 (a0_3 != 0) a0_0 a0_1 a0_2 a0_3) else (ins_Encode.j0 k t106 t107 false a0_0 a0_1 a0_2 a0_3))))) else (ins_Encode.j0 k t106 t107 true a0_0 a0_1 a0_2 a0_3))) else (ins_Encode.j0 k t106 t107 true a0_0 a0_1 a0_2 a0_3)))))
theorem ins_Encode.mono_l : ∀ k, (∀ y0 y1 y2 y3 y4 y5 y6, LeO (ins_Encode.j0 k y0 y1 y2 y3 y4 y5 y6) (ins_Encode.j0 (k + 1) y0 y1 y2 y3 y4 y5 y6)) ∧ (∀ y0 y1 y2 y3 y4 y5, LeO (ins_Encode.j1 k y0 y1 y2 y3 y4 y5) (ins_Encode.j1 (k + 1) y0 y1 y2 y3 y4 y5)) ∧ (∀ y0 y1 y2 y3 y4 y5 y6, LeO (ins_Encode.j2 k y0 y1 y2 y3 y4 y5 y6) (ins_Encode.j2 (k + 1) y0 y1 y2 y3 y4 y5 y6))
  | 0 => ⟨fun _ _ _ _ _ _ _ r h => by simp [ins_Encode.j0] at h, fun _ _ _ _ _ _ r h => by simp [ins_Encode.j1] at h, fun _ _ _ _ _ _ _ r h => by simp [ins_Encode.j2] at h⟩
  | k + 1 => by
    obtain ⟨ih0, ih1, ih2⟩ := ins_Encode.mono_l k
    refine ⟨?_, ?_, ?_⟩
    · intro y0 y1 y2 y3 y4 y5 y6
      unfold ins_Encode.j0
      repeat' first
      | (with_reducible exact ih0 _ _ _ _ _ _ _)
      | (with_reducible exact ih1 _ _ _ _ _ _)
      | (with_reducible exact ih2 _ _ _ _ _ _ _)
      | (with_reducible exact ins_shape_registers.mono _ _)
      | (with_reducible exact ins_shape_width.mono _ _)
      | (with_reducible exact word_Bytes.mono _ _ _)
      | (with_reducible exact LeO.refl _)
      | (with_reducible exact LeO.none _)
      | (with_reducible refine LeO.ite ?_ ?_)
      | (with_reducible refine LeO.bind ?_ (fun _ => ?_))
      | exact ih0 _ _ _ _ _ _ _
      | exact ih1 _ _ _ _ _ _
      | exact ih2 _ _ _ _ _ _ _
      | exact ins_shape_registers.mono _ _
      | exact ins_shape_width.mono _ _
      | exact word_Bytes.mono _ _ _
      | exact LeO.none _
      | refine LeO.ite ?_ ?_
      | refine LeO.bind ?_ (fun _ => ?_)
    · intro y0 y1 y2 y3 y4 y5
      unfold ins_Encode.j1
      repeat' first
      | (with_reducible exact ih0 _ _ _ _ _ _ _)
      | (with_reducible exact ih1 _ _ _ _ _ _)
      | (with_reducible exact ih2 _ _ _ _ _ _ _)
      | (with_reducible exact ins_shape_registers.mono _ _)
      | (with_reducible exact ins_shape_width.mono _ _)
      | (with_reducible exact word_Bytes.mono _ _ _)
      | (with_reducible exact LeO.refl _)
      | (with_reducible exact LeO.none _)
      | (with_reducible refine LeO.ite ?_ ?_)
      | (with_reducible refine LeO.bind ?_ (fun _ => ?_))
      | exact ih0 _ _ _ _ _ _ _
      | exact ih1 _ _ _ _ _ _
      | exact ih2 _ _ _ _ _ _ _
      | exact ins_shape_registers.mono _ _
      | exact ins_shape_width.mono _ _
      | exact word_Bytes.mono _ _ _
      | exact LeO.none _
      | refine LeO.ite ?_ ?_
      | refine LeO.bind ?_ (fun _ => ?_)
    · intro y0 y1 y2 y3 y4 y5 y6
      unfold ins_Encode.j2
      repeat' first
      | (with_reducible exact ih0 _ _ _ _ _ _ _)
      | (with_reducible exact ih1 _ _ _ _ _ _)
      | (with_reducible exact ih2 _ _ _ _ _ _ _)
      | (with_reducible exact ins_shape_registers.mono _ _)
      | (with_reducible exact ins_shape_width.mono _ _)
      | (with_reducible exact word_Bytes.mono _ _ _)
      | (with_reducible exact LeO.refl _)
      | (with_reducible exact LeO.none _)
      | (with_reducible refine LeO.ite ?_ ?_)
      | (with_reducible refine LeO.bind ?_ (fun _ => ?_))
      | exact ih0 _ _ _ _ _ _ _
      | exact ih1 _ _ _ _ _ _
      | exact ih2 _ _ _ _ _ _ _
      | exact ins_shape_registers.mono _ _
      | exact ins_shape_width.mono _ _
      | exact word_Bytes.mono _ _ _
      | exact LeO.none _
      | refine LeO.ite ?_ ?_
      | refine LeO.bind ?_ (fun _ => ?_)
theorem ins_Encode.mono : ∀ a0 a1 a2 a3 k, LeO (ins_Encode.f k a0 a1 a2 a3) (ins_Encode.f (k + 1) a0 a1 a2 a3) := by
  intro a0 a1 a2 a3 k
  obtain ⟨ih0, ih1, ih2⟩ := ins_Encode.mono_l k
  unfold ins_Encode.f
  repeat' first
      | (with_reducible exact ih0 _ _ _ _ _ _ _)
      | (with_reducible exact ih1 _ _ _ _ _ _)
      | (with_reducible exact ih2 _ _ _ _ _ _ _)
      | (with_reducible exact ins_shape_registers.mono _ _)
      | (with_reducible exact ins_shape_width.mono _ _)
      | (with_reducible exact word_Bytes.mono _ _ _)
      | (with_reducible exact LeO.refl _)
      | (with_reducible exact LeO.none _)
      | (with_reducible refine LeO.ite ?_ ?_)
      | (with_reducible refine LeO.bind ?_ (fun _ => ?_))
      | exact ih0 _ _ _ _ _ _ _
      | exact ih1 _ _ _ _ _ _
      | exact ih2 _ _ _ _ _ _ _
      | exact ins_shape_registers.mono _ _
      | exact ins_shape_width.mono _ _
      | exact word_Bytes.mono _ _ _
      | exact LeO.none _
      | refine LeO.ite ?_ ?_
      | refine LeO.bind ?_ (fun _ => ?_)
def ins_Encode.T14 : Bool × List (List Nat × List Nat) := (true, [([], []), ([0], [0]), ([], []), ([2], [2]), ([1, 3, 3], [1, 3]), ([4], [4]), ([5], [5]), ([5], [5]), ([6, 4, 0, 1, 2, 3, 4, 5, 6], [6]), ([7, 8, 0, 1, 2, 3, 4, 5, 6, 7, 8], [7])])
def ins_Encode.B14 : List Nat := [0, 1, 0, 4, 15, 31, 63, 63, 127, 511]
theorem ins_Encode.tab14 : rtab .any (opsOf Tryd.f9 14) = ins_Encode.T14 := by kernel_rfl
theorem ins_Encode.bits14 : waitsOk ins_Encode.T14.2 ins_Encode.B14 = true := by kernel_rfl
set_option maxHeartbeats 8000000 in
set_option maxRecDepth 100000 in
theorem ins_Encode.calls (k : Nat) (a0_0 : Int) (a0_1 : Int) (a0_2 : Int) (a0_3 : Int) (r1 : ByteArray) (r2 : Int) (w : World) (hG : Glob w) (h : ins_Encode.f k a0_0 a0_1 a0_2 a0_3 = some (r1, r2)) :
    Calls Tryd.prog 9 #[.agg #[.int .i64 a0_0, .int .i64 a0_1, .int .i64 a0_2, .int .i64 a0_3]] w fun e w' => e = .returned (.tuple #[.string r1, .int .i64 r2]) ∧ Below w.heap.size w w' := by
  have HG := Aside0.mk hG
  clear hG
  have hu23 := Tryd.underlying23
  have HB := Aside0.mk (Below.refl w.heap.size w)
  have H : ((ins_shapeOf.f a0_0).bind fun t106 => ((ins_shape_registers.f k t106).bind fun t107 => (if t106 = 0 then (ins_Encode.j0 k t106 t107 true a0_0 a0_1 a0_2 a0_3) else ((ins_isRegister.f a0_1).bind fun t108 => (if t108 = true then ((ins_isRegister.f a0_2).bind fun t109 => (if t109 = true then (if t107 < 2 then (if a0_2 = 0 then (if t107 < 1 then (if a0_1 = 0 then ((ins_shape_width.f k t106).bind fun t110 => (if t110 = 0 then (ins_Encode.j0 k t106 t107 (a0_3 != 0) a0_0 a0_1 a0_2 a0_3) else (ins_Encode.j0 k t106 t107 false a0_0 a0_1 a0_2 a0_3))) else (ins_Encode.j0 k t106 t107 true a0_0 a0_1 a0_2 a0_3)) else ((ins_shape_width.f k t106).bind fun t111 => (if t111 = 0 then (ins_Encode.j0 k t106 t107 (a0_3 != 0) a0_0 a0_1 a0_2 a0_3) else (ins_Encode.j0 k t106 t107 false a0_0 a0_1 a0_2 a0_3)))) else (ins_Encode.j0 k t106 t107 true a0_0 a0_1 a0_2 a0_3)) else (if t107 < 1 then (if a0_1 = 0 then ((ins_shape_width.f k t106).bind fun t112 => (if t112 = 0 then (ins_Encode.j0 k t106 t107 (a0_3 != 0) a0_0 a0_1 a0_2 a0_3) else (ins_Encode.j0 k t106 t107 false a0_0 a0_1 a0_2 a0_3))) else (ins_Encode.j0 k t106 t107 true a0_0 a0_1 a0_2 a0_3)) else ((ins_shape_width.f k t106).bind fun t113 => (if t113 = 0 then (ins_Encode.j0 k t106 t107 (a0_3 != 0) a0_0 a0_1 a0_2 a0_3) else (ins_Encode.j0 k t106 t107 false a0_0 a0_1 a0_2 a0_3))))) else (ins_Encode.j0 k t106 t107 true a0_0 a0_1 a0_2 a0_3))) else (ins_Encode.j0 k t106 t107 true a0_0 a0_1 a0_2 a0_3)))))) = some (r1, r2) := h
  clear h
  replace H := Option.bind_eq_some_iff.mp H
  obtain ⟨t106, A20, H⟩ := H
  replace H : ((ins_shape_registers.f k t106).bind fun t107 => (if t106 = 0 then (ins_Encode.j0 k t106 t107 true a0_0 a0_1 a0_2 a0_3) else ((ins_isRegister.f a0_1).bind fun t108 => (if t108 = true then ((ins_isRegister.f a0_2).bind fun t109 => (if t109 = true then (if t107 < 2 then (if a0_2 = 0 then (if t107 < 1 then (if a0_1 = 0 then ((ins_shape_width.f k t106).bind fun t110 => (if t110 = 0 then (ins_Encode.j0 k t106 t107 (a0_3 != 0) a0_0 a0_1 a0_2 a0_3) else (ins_Encode.j0 k t106 t107 false a0_0 a0_1 a0_2 a0_3))) else (ins_Encode.j0 k t106 t107 true a0_0 a0_1 a0_2 a0_3)) else ((ins_shape_width.f k t106).bind fun t111 => (if t111 = 0 then (ins_Encode.j0 k t106 t107 (a0_3 != 0) a0_0 a0_1 a0_2 a0_3) else (ins_Encode.j0 k t106 t107 false a0_0 a0_1 a0_2 a0_3)))) else (ins_Encode.j0 k t106 t107 true a0_0 a0_1 a0_2 a0_3)) else (if t107 < 1 then (if a0_1 = 0 then ((ins_shape_width.f k t106).bind fun t112 => (if t112 = 0 then (ins_Encode.j0 k t106 t107 (a0_3 != 0) a0_0 a0_1 a0_2 a0_3) else (ins_Encode.j0 k t106 t107 false a0_0 a0_1 a0_2 a0_3))) else (ins_Encode.j0 k t106 t107 true a0_0 a0_1 a0_2 a0_3)) else ((ins_shape_width.f k t106).bind fun t113 => (if t113 = 0 then (ins_Encode.j0 k t106 t107 (a0_3 != 0) a0_0 a0_1 a0_2 a0_3) else (ins_Encode.j0 k t106 t107 false a0_0 a0_1 a0_2 a0_3))))) else (ins_Encode.j0 k t106 t107 true a0_0 a0_1 a0_2 a0_3))) else (ins_Encode.j0 k t106 t107 true a0_0 a0_1 a0_2 a0_3))))) = some (r1, r2) := H
  have A2 := Aside0.mk A20
  clear A20
  replace H := Option.bind_eq_some_iff.mp H
  obtain ⟨t107, A30, H⟩ := H
  replace H : (if t106 = 0 then (ins_Encode.j0 k t106 t107 true a0_0 a0_1 a0_2 a0_3) else ((ins_isRegister.f a0_1).bind fun t108 => (if t108 = true then ((ins_isRegister.f a0_2).bind fun t109 => (if t109 = true then (if t107 < 2 then (if a0_2 = 0 then (if t107 < 1 then (if a0_1 = 0 then ((ins_shape_width.f k t106).bind fun t110 => (if t110 = 0 then (ins_Encode.j0 k t106 t107 (a0_3 != 0) a0_0 a0_1 a0_2 a0_3) else (ins_Encode.j0 k t106 t107 false a0_0 a0_1 a0_2 a0_3))) else (ins_Encode.j0 k t106 t107 true a0_0 a0_1 a0_2 a0_3)) else ((ins_shape_width.f k t106).bind fun t111 => (if t111 = 0 then (ins_Encode.j0 k t106 t107 (a0_3 != 0) a0_0 a0_1 a0_2 a0_3) else (ins_Encode.j0 k t106 t107 false a0_0 a0_1 a0_2 a0_3)))) else (ins_Encode.j0 k t106 t107 true a0_0 a0_1 a0_2 a0_3)) else (if t107 < 1 then (if a0_1 = 0 then ((ins_shape_width.f k t106).bind fun t112 => (if t112 = 0 then (ins_Encode.j0 k t106 t107 (a0_3 != 0) a0_0 a0_1 a0_2 a0_3) else (ins_Encode.j0 k t106 t107 false a0_0 a0_1 a0_2 a0_3))) else (ins_Encode.j0 k t106 t107 true a0_0 a0_1 a0_2 a0_3)) else ((ins_shape_width.f k t106).bind fun t113 => (if t113 = 0 then (ins_Encode.j0 k t106 t107 (a0_3 != 0) a0_0 a0_1 a0_2 a0_3) else (ins_Encode.j0 k t106 t107 false a0_0 a0_1 a0_2 a0_3))))) else (ins_Encode.j0 k t106 t107 true a0_0 a0_1 a0_2 a0_3))) else (ins_Encode.j0 k t106 t107 true a0_0 a0_1 a0_2 a0_3)))) = some (r1, r2) := H
  have A3 := Aside0.mk A30
  clear A30
  have HC4 := Aside0.mk H
  clear H
  go_enter Tryd.func9, Tryd.ntmps9
  go_upto_region 3 with (first | ((with_reducible refine gate_dst (N := 1) rfl ?_); refine box_event ?hg (N := 1) ?hd (cs := #[.int .i64 a0_0, .int .i64 a0_1, .int .i64 a0_2, .int .i64 a0_3]) (t := 23) ?hr ?_; (case hd => rfl); (case hg => rfl); (case hr => first | (go_simp; done) | (go_simp; rfl)); intro gb105 hg w5 hbox hb; have n0_ := Aside0.mk (below_step (by repeat (first | (with_reducible first | exact HB.out | apply below_alloc | apply pw_below_drewN | apply below_drew1) | exact HB.out)) hb); have n1_ := Aside0.mk (hbox); have n2_ := Aside0.mk ((by rw [hg]; exact (below_size (by repeat (first | (with_reducible first | exact HB.out | apply below_alloc | apply pw_below_drewN | apply below_drew1) | exact HB.out))) : w.heap.size ≤ gb105)); have n3_ := Aside0.mk ((by rw [hg]; exact (below_size (by repeat (first | (with_reducible first | exact HB.out | apply below_alloc | apply pw_below_drewN | apply below_drew1) | exact HB.out))) : w.heap.size ≤ gb105)); clear HB; have HB := n0_; have BK105 := n1_; have GW105 := n2_; have GE105 := n3_; clear n0_ n1_ n2_ n3_; clear hb hbox hg; have hcz6_0 : w5.cell? ⟨gb105, 0, none⟩ = some (.int .i64 a0_0) := (blk_cell BK105.out 0).trans rfl; have hcz6_1 : w5.cell? ⟨gb105, 1, none⟩ = some (.int .i64 a0_1) := (blk_cell BK105.out 1).trans rfl; have hcz6_2 : w5.cell? ⟨gb105, 2, none⟩ = some (.int .i64 a0_2) := (blk_cell BK105.out 2).trans rfl; have hcz6_3 : w5.cell? ⟨gb105, 3, none⟩ = some (.int .i64 a0_3) := (blk_cell BK105.out 3).trans rfl; have hfz6_0 := blk_frozen BK105.out 0; have hfz6_1 := blk_frozen BK105.out 1; have hfz6_2 := blk_frozen BK105.out 2; have hfz6_3 := blk_frozen BK105.out 3) | ((with_reducible refine gate_callee (f := 19) rfl ?_); refine goesL_ (some 11) rfl rfl Tryd.func19 (by kernel_rfl) rfl #[.int .i64 a0_0] rfl (by (try simp only [List.map_toArray, List.map_cons, List.map_nil]); first | done | rfl | (simp only [List.length_drop, List.length_take]; rfl)) ?_; (with_reducible refine (ins_shapeOf.calls a0_0 t106 _ (HG.out.below (by first | exact Below.refl _ _ | (repeat (first | (with_reducible first | exact HB.out | apply below_alloc | apply pw_below_drewN | apply below_drew1 | refine below_set ?_ GE105.out) | exact HB.out))) rfl) A2.out).mono ?_); rintro e w' ⟨rfl, ⟨nd, rfl⟩⟩; refine ⟨_, rfl, ?_⟩) | ((with_reducible refine gate_callee (f := 20) rfl ?_); refine goesL_ (some 13) rfl rfl Tryd.func20 (by kernel_rfl) rfl #[.int .u8 t106] rfl (by (try simp only [List.map_toArray, List.map_cons, List.map_nil]); first | done | rfl | (simp only [List.length_drop, List.length_take]; rfl)) ?_; (with_reducible refine (ins_shape_registers.calls k t106 t107 _ A3.out).mono ?_); rintro e w' ⟨rfl, ⟨nd, rfl⟩⟩; refine ⟨_, rfl, ?_⟩))
  (try simp only [Act.put, List.setIfInBounds_toArray, List.set_cons_zero, List.set_cons_succ])
  go_cut [55] (fun v55 wc => ∃ (kq : Nat) (x55_3 : Bool), v55 = .bool x55_3 ∧ Aside0 (ins_Encode.j0 kq t106 t107 x55_3 a0_0 a0_1 a0_2 a0_3 = some (r1, r2)) ∧ Aside0 (kq ≤ k) ∧ Aside0 (wc.heap[gb105]? = some (.cells #[.int .i64 a0_0, .int .i64 a0_1, .int .i64 a0_2, .int .i64 a0_3] 23 (0, 0))) ∧ Aside0 (Below w.heap.size w wc))
  case first =>
    have H := HC4.out
    clear HC4
    by_cases c7 : t106 = 0
    · rw [if_pos c7] at H
      have c7b0 : (t106 == 0) = true := beq_iff_eq.mpr c7
      have c7b1 : (t106 != 0) = false := bne_eq_false_iff_eq.mpr c7
      clear c7
      (first | rw [c7b0] | (simp only [i64_w, i32_w]; rw [c7b0]) | skip)
      have H' := Aside0.mk H
      clear H
      go_wp2
      go_meet
      case rel => exact ⟨_, (true), (by first | rfl | (simp; done) | (simp [*]; done)), H', ⟨by first | omega | exact Nat.le_refl _⟩, ⟨by (with_reducible repeat (first | refine blk_drewN ?_ _ | refine blk_drew ?_ | refine blk_alloc ?_ _)); exact BK105.out⟩, ⟨by repeat (first | (with_reducible first | exact HB.out | apply below_alloc | apply pw_below_drewN | apply below_drew1 | refine below_set ?_ GE105.out) | exact HB.out)⟩⟩
    · rw [if_neg c7] at H
      have c7b0 : (t106 == 0) = false := beq_eq_false_iff_ne.mpr c7
      have c7b1 : (t106 != 0) = true := bne_iff_ne.mpr c7
      (first | rw [c7b0] | (simp only [i64_w, i32_w]; rw [c7b0]) | skip)
      replace H := Option.bind_eq_some_iff.mp H
      obtain ⟨t108, A80, H⟩ := H
      replace H : (if t108 = true then ((ins_isRegister.f a0_2).bind fun t109 => (if t109 = true then (if t107 < 2 then (if a0_2 = 0 then (if t107 < 1 then (if a0_1 = 0 then ((ins_shape_width.f k t106).bind fun t110 => (if t110 = 0 then (ins_Encode.j0 k t106 t107 (a0_3 != 0) a0_0 a0_1 a0_2 a0_3) else (ins_Encode.j0 k t106 t107 false a0_0 a0_1 a0_2 a0_3))) else (ins_Encode.j0 k t106 t107 true a0_0 a0_1 a0_2 a0_3)) else ((ins_shape_width.f k t106).bind fun t111 => (if t111 = 0 then (ins_Encode.j0 k t106 t107 (a0_3 != 0) a0_0 a0_1 a0_2 a0_3) else (ins_Encode.j0 k t106 t107 false a0_0 a0_1 a0_2 a0_3)))) else (ins_Encode.j0 k t106 t107 true a0_0 a0_1 a0_2 a0_3)) else (if t107 < 1 then (if a0_1 = 0 then ((ins_shape_width.f k t106).bind fun t112 => (if t112 = 0 then (ins_Encode.j0 k t106 t107 (a0_3 != 0) a0_0 a0_1 a0_2 a0_3) else (ins_Encode.j0 k t106 t107 false a0_0 a0_1 a0_2 a0_3))) else (ins_Encode.j0 k t106 t107 true a0_0 a0_1 a0_2 a0_3)) else ((ins_shape_width.f k t106).bind fun t113 => (if t113 = 0 then (ins_Encode.j0 k t106 t107 (a0_3 != 0) a0_0 a0_1 a0_2 a0_3) else (ins_Encode.j0 k t106 t107 false a0_0 a0_1 a0_2 a0_3))))) else (ins_Encode.j0 k t106 t107 true a0_0 a0_1 a0_2 a0_3))) else (ins_Encode.j0 k t106 t107 true a0_0 a0_1 a0_2 a0_3)) = some (r1, r2) := H
      have A8 := Aside0.mk A80
      clear A80
      by_cases c9 : t108 = true
      · subst c9
        have H1 : ((ins_isRegister.f a0_2).bind fun t109 => (if t109 = true then (if t107 < 2 then (if a0_2 = 0 then (if t107 < 1 then (if a0_1 = 0 then ((ins_shape_width.f k t106).bind fun t110 => (if t110 = 0 then (ins_Encode.j0 k t106 t107 (a0_3 != 0) a0_0 a0_1 a0_2 a0_3) else (ins_Encode.j0 k t106 t107 false a0_0 a0_1 a0_2 a0_3))) else (ins_Encode.j0 k t106 t107 true a0_0 a0_1 a0_2 a0_3)) else ((ins_shape_width.f k t106).bind fun t111 => (if t111 = 0 then (ins_Encode.j0 k t106 t107 (a0_3 != 0) a0_0 a0_1 a0_2 a0_3) else (ins_Encode.j0 k t106 t107 false a0_0 a0_1 a0_2 a0_3)))) else (ins_Encode.j0 k t106 t107 true a0_0 a0_1 a0_2 a0_3)) else (if t107 < 1 then (if a0_1 = 0 then ((ins_shape_width.f k t106).bind fun t112 => (if t112 = 0 then (ins_Encode.j0 k t106 t107 (a0_3 != 0) a0_0 a0_1 a0_2 a0_3) else (ins_Encode.j0 k t106 t107 false a0_0 a0_1 a0_2 a0_3))) else (ins_Encode.j0 k t106 t107 true a0_0 a0_1 a0_2 a0_3)) else ((ins_shape_width.f k t106).bind fun t113 => (if t113 = 0 then (ins_Encode.j0 k t106 t107 (a0_3 != 0) a0_0 a0_1 a0_2 a0_3) else (ins_Encode.j0 k t106 t107 false a0_0 a0_1 a0_2 a0_3))))) else (ins_Encode.j0 k t106 t107 true a0_0 a0_1 a0_2 a0_3))) = some (r1, r2) := by rw [if_pos rfl] at H; exact H
        clear H
        have H := H1
        clear H1
        replace H := Option.bind_eq_some_iff.mp H
        obtain ⟨t109, A100, H⟩ := H
        replace H : (if t109 = true then (if t107 < 2 then (if a0_2 = 0 then (if t107 < 1 then (if a0_1 = 0 then ((ins_shape_width.f k t106).bind fun t110 => (if t110 = 0 then (ins_Encode.j0 k t106 t107 (a0_3 != 0) a0_0 a0_1 a0_2 a0_3) else (ins_Encode.j0 k t106 t107 false a0_0 a0_1 a0_2 a0_3))) else (ins_Encode.j0 k t106 t107 true a0_0 a0_1 a0_2 a0_3)) else ((ins_shape_width.f k t106).bind fun t111 => (if t111 = 0 then (ins_Encode.j0 k t106 t107 (a0_3 != 0) a0_0 a0_1 a0_2 a0_3) else (ins_Encode.j0 k t106 t107 false a0_0 a0_1 a0_2 a0_3)))) else (ins_Encode.j0 k t106 t107 true a0_0 a0_1 a0_2 a0_3)) else (if t107 < 1 then (if a0_1 = 0 then ((ins_shape_width.f k t106).bind fun t112 => (if t112 = 0 then (ins_Encode.j0 k t106 t107 (a0_3 != 0) a0_0 a0_1 a0_2 a0_3) else (ins_Encode.j0 k t106 t107 false a0_0 a0_1 a0_2 a0_3))) else (ins_Encode.j0 k t106 t107 true a0_0 a0_1 a0_2 a0_3)) else ((ins_shape_width.f k t106).bind fun t113 => (if t113 = 0 then (ins_Encode.j0 k t106 t107 (a0_3 != 0) a0_0 a0_1 a0_2 a0_3) else (ins_Encode.j0 k t106 t107 false a0_0 a0_1 a0_2 a0_3))))) else (ins_Encode.j0 k t106 t107 true a0_0 a0_1 a0_2 a0_3)) = some (r1, r2) := H
        have A10 := Aside0.mk A100
        clear A100
        by_cases c11 : t109 = true
        · subst c11
          have H1 : (if t107 < 2 then (if a0_2 = 0 then (if t107 < 1 then (if a0_1 = 0 then ((ins_shape_width.f k t106).bind fun t110 => (if t110 = 0 then (ins_Encode.j0 k t106 t107 (a0_3 != 0) a0_0 a0_1 a0_2 a0_3) else (ins_Encode.j0 k t106 t107 false a0_0 a0_1 a0_2 a0_3))) else (ins_Encode.j0 k t106 t107 true a0_0 a0_1 a0_2 a0_3)) else ((ins_shape_width.f k t106).bind fun t111 => (if t111 = 0 then (ins_Encode.j0 k t106 t107 (a0_3 != 0) a0_0 a0_1 a0_2 a0_3) else (ins_Encode.j0 k t106 t107 false a0_0 a0_1 a0_2 a0_3)))) else (ins_Encode.j0 k t106 t107 true a0_0 a0_1 a0_2 a0_3)) else (if t107 < 1 then (if a0_1 = 0 then ((ins_shape_width.f k t106).bind fun t112 => (if t112 = 0 then (ins_Encode.j0 k t106 t107 (a0_3 != 0) a0_0 a0_1 a0_2 a0_3) else (ins_Encode.j0 k t106 t107 false a0_0 a0_1 a0_2 a0_3))) else (ins_Encode.j0 k t106 t107 true a0_0 a0_1 a0_2 a0_3)) else ((ins_shape_width.f k t106).bind fun t113 => (if t113 = 0 then (ins_Encode.j0 k t106 t107 (a0_3 != 0) a0_0 a0_1 a0_2 a0_3) else (ins_Encode.j0 k t106 t107 false a0_0 a0_1 a0_2 a0_3))))) = some (r1, r2) := by rw [if_pos rfl] at H; exact H
          clear H
          have H := H1
          clear H1
          by_cases c12 : t107 < 2
          · rw [if_pos c12] at H
            have c12b0 : decide (t107 < 2) = true := decide_eq_true c12
            clear c12
            by_cases c13 : a0_2 = 0
            · rw [if_pos c13] at H
              have c13b0 : (a0_2 == 0) = true := beq_iff_eq.mpr c13
              have c13b1 : (a0_2 != 0) = false := bne_eq_false_iff_eq.mpr c13
              clear c13
              by_cases c14 : t107 < 1
              · rw [if_pos c14] at H
                have c14b0 : decide (t107 < 1) = true := decide_eq_true c14
                clear c14
                by_cases c15 : a0_1 = 0
                · rw [if_pos c15] at H
                  have c15b0 : (a0_1 == 0) = true := beq_iff_eq.mpr c15
                  have c15b1 : (a0_1 != 0) = false := bne_eq_false_iff_eq.mpr c15
                  clear c15
                  replace H := Option.bind_eq_some_iff.mp H
                  obtain ⟨t110, A160, H⟩ := H
                  replace H : (if t110 = 0 then (ins_Encode.j0 k t106 t107 (a0_3 != 0) a0_0 a0_1 a0_2 a0_3) else (ins_Encode.j0 k t106 t107 false a0_0 a0_1 a0_2 a0_3)) = some (r1, r2) := H
                  have A16 := Aside0.mk A160
                  clear A160
                  by_cases c17 : t110 = 0
                  · rw [if_pos c17] at H
                    have c17b0 : (t110 == 0) = true := beq_iff_eq.mpr c17
                    have c17b1 : (t110 != 0) = false := bne_eq_false_iff_eq.mpr c17
                    clear c17
                    have H' := Aside0.mk H
                    clear H
                    have hcz18_0 : w5.cell? ⟨gb105, 0, none⟩ = some (.int .i64 a0_0) := (blk_cell BK105.out 0).trans rfl
                    have hcz18_1 : w5.cell? ⟨gb105, 1, none⟩ = some (.int .i64 a0_1) := (blk_cell BK105.out 1).trans rfl
                    have hcz18_2 : w5.cell? ⟨gb105, 2, none⟩ = some (.int .i64 a0_2) := (blk_cell BK105.out 2).trans rfl
                    have hcz18_3 : w5.cell? ⟨gb105, 3, none⟩ = some (.int .i64 a0_3) := (blk_cell BK105.out 3).trans rfl
                    have hfz18_0 := blk_frozen BK105.out 0
                    have hfz18_1 := blk_frozen BK105.out 1
                    have hfz18_2 := blk_frozen BK105.out 2
                    have hfz18_3 := blk_frozen BK105.out 3
                    go_wp2_with (first | (go_at_call 21; (with_reducible refine (ins_isRegister.calls a0_1 true _ A8.out).mono ?_); rintro e w' ⟨rfl, ⟨nd, rfl⟩⟩) | (go_at_call 21; (with_reducible refine (ins_isRegister.calls a0_2 true _ A10.out).mono ?_); rintro e w' ⟨rfl, ⟨nd, rfl⟩⟩) | (go_at_call 22; (with_reducible refine (ins_shape_width.calls k t106 t110 _ A16.out).mono ?_); rintro e w' ⟨rfl, ⟨nd, rfl⟩⟩))
                    go_meet
                    case rel => exact ⟨_, ((a0_3 != 0)), (by first | rfl | (simp; done) | (simp [*]; done)), H', ⟨by first | omega | exact Nat.le_refl _⟩, ⟨by (with_reducible repeat (first | refine blk_drewN ?_ _ | refine blk_drew ?_ | refine blk_alloc ?_ _)); exact BK105.out⟩, ⟨by repeat (first | (with_reducible first | exact HB.out | apply below_alloc | apply pw_below_drewN | apply below_drew1 | refine below_set ?_ GE105.out) | exact HB.out)⟩⟩
                  · rw [if_neg c17] at H
                    have c17b0 : (t110 == 0) = false := beq_eq_false_iff_ne.mpr c17
                    have c17b1 : (t110 != 0) = true := bne_iff_ne.mpr c17
                    have H' := Aside0.mk H
                    clear H
                    have hcz19_0 : w5.cell? ⟨gb105, 0, none⟩ = some (.int .i64 a0_0) := (blk_cell BK105.out 0).trans rfl
                    have hcz19_1 : w5.cell? ⟨gb105, 1, none⟩ = some (.int .i64 a0_1) := (blk_cell BK105.out 1).trans rfl
                    have hcz19_2 : w5.cell? ⟨gb105, 2, none⟩ = some (.int .i64 a0_2) := (blk_cell BK105.out 2).trans rfl
                    have hcz19_3 : w5.cell? ⟨gb105, 3, none⟩ = some (.int .i64 a0_3) := (blk_cell BK105.out 3).trans rfl
                    have hfz19_0 := blk_frozen BK105.out 0
                    have hfz19_1 := blk_frozen BK105.out 1
                    have hfz19_2 := blk_frozen BK105.out 2
                    have hfz19_3 := blk_frozen BK105.out 3
                    go_wp2_with (first | (go_at_call 21; (with_reducible refine (ins_isRegister.calls a0_1 true _ A8.out).mono ?_); rintro e w' ⟨rfl, ⟨nd, rfl⟩⟩) | (go_at_call 21; (with_reducible refine (ins_isRegister.calls a0_2 true _ A10.out).mono ?_); rintro e w' ⟨rfl, ⟨nd, rfl⟩⟩) | (go_at_call 22; (with_reducible refine (ins_shape_width.calls k t106 t110 _ A16.out).mono ?_); rintro e w' ⟨rfl, ⟨nd, rfl⟩⟩))
                    go_meet
                    case rel => exact ⟨_, (false), (by first | rfl | (simp; done) | (simp [*]; done)), H', ⟨by first | omega | exact Nat.le_refl _⟩, ⟨by (with_reducible repeat (first | refine blk_drewN ?_ _ | refine blk_drew ?_ | refine blk_alloc ?_ _)); exact BK105.out⟩, ⟨by repeat (first | (with_reducible first | exact HB.out | apply below_alloc | apply pw_below_drewN | apply below_drew1 | refine below_set ?_ GE105.out) | exact HB.out)⟩⟩
                · rw [if_neg c15] at H
                  have c15b0 : (a0_1 == 0) = false := beq_eq_false_iff_ne.mpr c15
                  have c15b1 : (a0_1 != 0) = true := bne_iff_ne.mpr c15
                  have H' := Aside0.mk H
                  clear H
                  have hcz20_0 : w5.cell? ⟨gb105, 0, none⟩ = some (.int .i64 a0_0) := (blk_cell BK105.out 0).trans rfl
                  have hcz20_1 : w5.cell? ⟨gb105, 1, none⟩ = some (.int .i64 a0_1) := (blk_cell BK105.out 1).trans rfl
                  have hcz20_2 : w5.cell? ⟨gb105, 2, none⟩ = some (.int .i64 a0_2) := (blk_cell BK105.out 2).trans rfl
                  have hcz20_3 : w5.cell? ⟨gb105, 3, none⟩ = some (.int .i64 a0_3) := (blk_cell BK105.out 3).trans rfl
                  have hfz20_0 := blk_frozen BK105.out 0
                  have hfz20_1 := blk_frozen BK105.out 1
                  have hfz20_2 := blk_frozen BK105.out 2
                  have hfz20_3 := blk_frozen BK105.out 3
                  go_wp2_with (first | (go_at_call 21; (with_reducible refine (ins_isRegister.calls a0_1 true _ A8.out).mono ?_); rintro e w' ⟨rfl, ⟨nd, rfl⟩⟩) | (go_at_call 21; (with_reducible refine (ins_isRegister.calls a0_2 true _ A10.out).mono ?_); rintro e w' ⟨rfl, ⟨nd, rfl⟩⟩))
                  go_meet
                  case rel => exact ⟨_, (true), (by first | rfl | (simp; done) | (simp [*]; done)), H', ⟨by first | omega | exact Nat.le_refl _⟩, ⟨by (with_reducible repeat (first | refine blk_drewN ?_ _ | refine blk_drew ?_ | refine blk_alloc ?_ _)); exact BK105.out⟩, ⟨by repeat (first | (with_reducible first | exact HB.out | apply below_alloc | apply pw_below_drewN | apply below_drew1 | refine below_set ?_ GE105.out) | exact HB.out)⟩⟩
              · rw [if_neg c14] at H
                have c14b0 : decide (t107 < 1) = false := decide_eq_false c14
                clear c14
                replace H := Option.bind_eq_some_iff.mp H
                obtain ⟨t111, A210, H⟩ := H
                replace H : (if t111 = 0 then (ins_Encode.j0 k t106 t107 (a0_3 != 0) a0_0 a0_1 a0_2 a0_3) else (ins_Encode.j0 k t106 t107 false a0_0 a0_1 a0_2 a0_3)) = some (r1, r2) := H
                have A21 := Aside0.mk A210
                clear A210
                by_cases c22 : t111 = 0
                · rw [if_pos c22] at H
                  have c22b0 : (t111 == 0) = true := beq_iff_eq.mpr c22
                  have c22b1 : (t111 != 0) = false := bne_eq_false_iff_eq.mpr c22
                  clear c22
                  have H' := Aside0.mk H
                  clear H
                  have hcz23_0 : w5.cell? ⟨gb105, 0, none⟩ = some (.int .i64 a0_0) := (blk_cell BK105.out 0).trans rfl
                  have hcz23_1 : w5.cell? ⟨gb105, 1, none⟩ = some (.int .i64 a0_1) := (blk_cell BK105.out 1).trans rfl
                  have hcz23_2 : w5.cell? ⟨gb105, 2, none⟩ = some (.int .i64 a0_2) := (blk_cell BK105.out 2).trans rfl
                  have hcz23_3 : w5.cell? ⟨gb105, 3, none⟩ = some (.int .i64 a0_3) := (blk_cell BK105.out 3).trans rfl
                  have hfz23_0 := blk_frozen BK105.out 0
                  have hfz23_1 := blk_frozen BK105.out 1
                  have hfz23_2 := blk_frozen BK105.out 2
                  have hfz23_3 := blk_frozen BK105.out 3
                  go_wp2_with (first | (go_at_call 21; (with_reducible refine (ins_isRegister.calls a0_1 true _ A8.out).mono ?_); rintro e w' ⟨rfl, ⟨nd, rfl⟩⟩) | (go_at_call 21; (with_reducible refine (ins_isRegister.calls a0_2 true _ A10.out).mono ?_); rintro e w' ⟨rfl, ⟨nd, rfl⟩⟩) | (go_at_call 22; (with_reducible refine (ins_shape_width.calls k t106 t111 _ A21.out).mono ?_); rintro e w' ⟨rfl, ⟨nd, rfl⟩⟩))
                  go_meet
                  case rel => exact ⟨_, ((a0_3 != 0)), (by first | rfl | (simp; done) | (simp [*]; done)), H', ⟨by first | omega | exact Nat.le_refl _⟩, ⟨by (with_reducible repeat (first | refine blk_drewN ?_ _ | refine blk_drew ?_ | refine blk_alloc ?_ _)); exact BK105.out⟩, ⟨by repeat (first | (with_reducible first | exact HB.out | apply below_alloc | apply pw_below_drewN | apply below_drew1 | refine below_set ?_ GE105.out) | exact HB.out)⟩⟩
                · rw [if_neg c22] at H
                  have c22b0 : (t111 == 0) = false := beq_eq_false_iff_ne.mpr c22
                  have c22b1 : (t111 != 0) = true := bne_iff_ne.mpr c22
                  have H' := Aside0.mk H
                  clear H
                  have hcz24_0 : w5.cell? ⟨gb105, 0, none⟩ = some (.int .i64 a0_0) := (blk_cell BK105.out 0).trans rfl
                  have hcz24_1 : w5.cell? ⟨gb105, 1, none⟩ = some (.int .i64 a0_1) := (blk_cell BK105.out 1).trans rfl
                  have hcz24_2 : w5.cell? ⟨gb105, 2, none⟩ = some (.int .i64 a0_2) := (blk_cell BK105.out 2).trans rfl
                  have hcz24_3 : w5.cell? ⟨gb105, 3, none⟩ = some (.int .i64 a0_3) := (blk_cell BK105.out 3).trans rfl
                  have hfz24_0 := blk_frozen BK105.out 0
                  have hfz24_1 := blk_frozen BK105.out 1
                  have hfz24_2 := blk_frozen BK105.out 2
                  have hfz24_3 := blk_frozen BK105.out 3
                  go_wp2_with (first | (go_at_call 21; (with_reducible refine (ins_isRegister.calls a0_1 true _ A8.out).mono ?_); rintro e w' ⟨rfl, ⟨nd, rfl⟩⟩) | (go_at_call 21; (with_reducible refine (ins_isRegister.calls a0_2 true _ A10.out).mono ?_); rintro e w' ⟨rfl, ⟨nd, rfl⟩⟩) | (go_at_call 22; (with_reducible refine (ins_shape_width.calls k t106 t111 _ A21.out).mono ?_); rintro e w' ⟨rfl, ⟨nd, rfl⟩⟩))
                  go_meet
                  case rel => exact ⟨_, (false), (by first | rfl | (simp; done) | (simp [*]; done)), H', ⟨by first | omega | exact Nat.le_refl _⟩, ⟨by (with_reducible repeat (first | refine blk_drewN ?_ _ | refine blk_drew ?_ | refine blk_alloc ?_ _)); exact BK105.out⟩, ⟨by repeat (first | (with_reducible first | exact HB.out | apply below_alloc | apply pw_below_drewN | apply below_drew1 | refine below_set ?_ GE105.out) | exact HB.out)⟩⟩
            · rw [if_neg c13] at H
              have c13b0 : (a0_2 == 0) = false := beq_eq_false_iff_ne.mpr c13
              have c13b1 : (a0_2 != 0) = true := bne_iff_ne.mpr c13
              have H' := Aside0.mk H
              clear H
              have hcz25_0 : w5.cell? ⟨gb105, 0, none⟩ = some (.int .i64 a0_0) := (blk_cell BK105.out 0).trans rfl
              have hcz25_1 : w5.cell? ⟨gb105, 1, none⟩ = some (.int .i64 a0_1) := (blk_cell BK105.out 1).trans rfl
              have hcz25_2 : w5.cell? ⟨gb105, 2, none⟩ = some (.int .i64 a0_2) := (blk_cell BK105.out 2).trans rfl
              have hcz25_3 : w5.cell? ⟨gb105, 3, none⟩ = some (.int .i64 a0_3) := (blk_cell BK105.out 3).trans rfl
              have hfz25_0 := blk_frozen BK105.out 0
              have hfz25_1 := blk_frozen BK105.out 1
              have hfz25_2 := blk_frozen BK105.out 2
              have hfz25_3 := blk_frozen BK105.out 3
              go_wp2_with (first | (go_at_call 21; (with_reducible refine (ins_isRegister.calls a0_1 true _ A8.out).mono ?_); rintro e w' ⟨rfl, ⟨nd, rfl⟩⟩) | (go_at_call 21; (with_reducible refine (ins_isRegister.calls a0_2 true _ A10.out).mono ?_); rintro e w' ⟨rfl, ⟨nd, rfl⟩⟩))
              go_meet
              case rel => exact ⟨_, (true), (by first | rfl | (simp; done) | (simp [*]; done)), H', ⟨by first | omega | exact Nat.le_refl _⟩, ⟨by (with_reducible repeat (first | refine blk_drewN ?_ _ | refine blk_drew ?_ | refine blk_alloc ?_ _)); exact BK105.out⟩, ⟨by repeat (first | (with_reducible first | exact HB.out | apply below_alloc | apply pw_below_drewN | apply below_drew1 | refine below_set ?_ GE105.out) | exact HB.out)⟩⟩
          · rw [if_neg c12] at H
            have c12b0 : decide (t107 < 2) = false := decide_eq_false c12
            clear c12
            by_cases c26 : t107 < 1
            · rw [if_pos c26] at H
              have c26b0 : decide (t107 < 1) = true := decide_eq_true c26
              clear c26
              by_cases c27 : a0_1 = 0
              · rw [if_pos c27] at H
                have c27b0 : (a0_1 == 0) = true := beq_iff_eq.mpr c27
                have c27b1 : (a0_1 != 0) = false := bne_eq_false_iff_eq.mpr c27
                clear c27
                replace H := Option.bind_eq_some_iff.mp H
                obtain ⟨t112, A280, H⟩ := H
                replace H : (if t112 = 0 then (ins_Encode.j0 k t106 t107 (a0_3 != 0) a0_0 a0_1 a0_2 a0_3) else (ins_Encode.j0 k t106 t107 false a0_0 a0_1 a0_2 a0_3)) = some (r1, r2) := H
                have A28 := Aside0.mk A280
                clear A280
                by_cases c29 : t112 = 0
                · rw [if_pos c29] at H
                  have c29b0 : (t112 == 0) = true := beq_iff_eq.mpr c29
                  have c29b1 : (t112 != 0) = false := bne_eq_false_iff_eq.mpr c29
                  clear c29
                  have H' := Aside0.mk H
                  clear H
                  have hcz30_0 : w5.cell? ⟨gb105, 0, none⟩ = some (.int .i64 a0_0) := (blk_cell BK105.out 0).trans rfl
                  have hcz30_1 : w5.cell? ⟨gb105, 1, none⟩ = some (.int .i64 a0_1) := (blk_cell BK105.out 1).trans rfl
                  have hcz30_2 : w5.cell? ⟨gb105, 2, none⟩ = some (.int .i64 a0_2) := (blk_cell BK105.out 2).trans rfl
                  have hcz30_3 : w5.cell? ⟨gb105, 3, none⟩ = some (.int .i64 a0_3) := (blk_cell BK105.out 3).trans rfl
                  have hfz30_0 := blk_frozen BK105.out 0
                  have hfz30_1 := blk_frozen BK105.out 1
                  have hfz30_2 := blk_frozen BK105.out 2
                  have hfz30_3 := blk_frozen BK105.out 3
                  go_wp2_with (first | (go_at_call 21; (with_reducible refine (ins_isRegister.calls a0_1 true _ A8.out).mono ?_); rintro e w' ⟨rfl, ⟨nd, rfl⟩⟩) | (go_at_call 21; (with_reducible refine (ins_isRegister.calls a0_2 true _ A10.out).mono ?_); rintro e w' ⟨rfl, ⟨nd, rfl⟩⟩) | (go_at_call 22; (with_reducible refine (ins_shape_width.calls k t106 t112 _ A28.out).mono ?_); rintro e w' ⟨rfl, ⟨nd, rfl⟩⟩))
                  go_meet
                  case rel => exact ⟨_, ((a0_3 != 0)), (by first | rfl | (simp; done) | (simp [*]; done)), H', ⟨by first | omega | exact Nat.le_refl _⟩, ⟨by (with_reducible repeat (first | refine blk_drewN ?_ _ | refine blk_drew ?_ | refine blk_alloc ?_ _)); exact BK105.out⟩, ⟨by repeat (first | (with_reducible first | exact HB.out | apply below_alloc | apply pw_below_drewN | apply below_drew1 | refine below_set ?_ GE105.out) | exact HB.out)⟩⟩
                · rw [if_neg c29] at H
                  have c29b0 : (t112 == 0) = false := beq_eq_false_iff_ne.mpr c29
                  have c29b1 : (t112 != 0) = true := bne_iff_ne.mpr c29
                  have H' := Aside0.mk H
                  clear H
                  have hcz31_0 : w5.cell? ⟨gb105, 0, none⟩ = some (.int .i64 a0_0) := (blk_cell BK105.out 0).trans rfl
                  have hcz31_1 : w5.cell? ⟨gb105, 1, none⟩ = some (.int .i64 a0_1) := (blk_cell BK105.out 1).trans rfl
                  have hcz31_2 : w5.cell? ⟨gb105, 2, none⟩ = some (.int .i64 a0_2) := (blk_cell BK105.out 2).trans rfl
                  have hcz31_3 : w5.cell? ⟨gb105, 3, none⟩ = some (.int .i64 a0_3) := (blk_cell BK105.out 3).trans rfl
                  have hfz31_0 := blk_frozen BK105.out 0
                  have hfz31_1 := blk_frozen BK105.out 1
                  have hfz31_2 := blk_frozen BK105.out 2
                  have hfz31_3 := blk_frozen BK105.out 3
                  go_wp2_with (first | (go_at_call 21; (with_reducible refine (ins_isRegister.calls a0_1 true _ A8.out).mono ?_); rintro e w' ⟨rfl, ⟨nd, rfl⟩⟩) | (go_at_call 21; (with_reducible refine (ins_isRegister.calls a0_2 true _ A10.out).mono ?_); rintro e w' ⟨rfl, ⟨nd, rfl⟩⟩) | (go_at_call 22; (with_reducible refine (ins_shape_width.calls k t106 t112 _ A28.out).mono ?_); rintro e w' ⟨rfl, ⟨nd, rfl⟩⟩))
                  go_meet
                  case rel => exact ⟨_, (false), (by first | rfl | (simp; done) | (simp [*]; done)), H', ⟨by first | omega | exact Nat.le_refl _⟩, ⟨by (with_reducible repeat (first | refine blk_drewN ?_ _ | refine blk_drew ?_ | refine blk_alloc ?_ _)); exact BK105.out⟩, ⟨by repeat (first | (with_reducible first | exact HB.out | apply below_alloc | apply pw_below_drewN | apply below_drew1 | refine below_set ?_ GE105.out) | exact HB.out)⟩⟩
              · rw [if_neg c27] at H
                have c27b0 : (a0_1 == 0) = false := beq_eq_false_iff_ne.mpr c27
                have c27b1 : (a0_1 != 0) = true := bne_iff_ne.mpr c27
                have H' := Aside0.mk H
                clear H
                have hcz32_0 : w5.cell? ⟨gb105, 0, none⟩ = some (.int .i64 a0_0) := (blk_cell BK105.out 0).trans rfl
                have hcz32_1 : w5.cell? ⟨gb105, 1, none⟩ = some (.int .i64 a0_1) := (blk_cell BK105.out 1).trans rfl
                have hcz32_2 : w5.cell? ⟨gb105, 2, none⟩ = some (.int .i64 a0_2) := (blk_cell BK105.out 2).trans rfl
                have hcz32_3 : w5.cell? ⟨gb105, 3, none⟩ = some (.int .i64 a0_3) := (blk_cell BK105.out 3).trans rfl
                have hfz32_0 := blk_frozen BK105.out 0
                have hfz32_1 := blk_frozen BK105.out 1
                have hfz32_2 := blk_frozen BK105.out 2
                have hfz32_3 := blk_frozen BK105.out 3
                go_wp2_with (first | (go_at_call 21; (with_reducible refine (ins_isRegister.calls a0_1 true _ A8.out).mono ?_); rintro e w' ⟨rfl, ⟨nd, rfl⟩⟩) | (go_at_call 21; (with_reducible refine (ins_isRegister.calls a0_2 true _ A10.out).mono ?_); rintro e w' ⟨rfl, ⟨nd, rfl⟩⟩))
                go_meet
                case rel => exact ⟨_, (true), (by first | rfl | (simp; done) | (simp [*]; done)), H', ⟨by first | omega | exact Nat.le_refl _⟩, ⟨by (with_reducible repeat (first | refine blk_drewN ?_ _ | refine blk_drew ?_ | refine blk_alloc ?_ _)); exact BK105.out⟩, ⟨by repeat (first | (with_reducible first | exact HB.out | apply below_alloc | apply pw_below_drewN | apply below_drew1 | refine below_set ?_ GE105.out) | exact HB.out)⟩⟩
            · rw [if_neg c26] at H
              have c26b0 : decide (t107 < 1) = false := decide_eq_false c26
              clear c26
              replace H := Option.bind_eq_some_iff.mp H
              obtain ⟨t113, A330, H⟩ := H
              replace H : (if t113 = 0 then (ins_Encode.j0 k t106 t107 (a0_3 != 0) a0_0 a0_1 a0_2 a0_3) else (ins_Encode.j0 k t106 t107 false a0_0 a0_1 a0_2 a0_3)) = some (r1, r2) := H
              have A33 := Aside0.mk A330
              clear A330
              by_cases c34 : t113 = 0
              · rw [if_pos c34] at H
                have c34b0 : (t113 == 0) = true := beq_iff_eq.mpr c34
                have c34b1 : (t113 != 0) = false := bne_eq_false_iff_eq.mpr c34
                clear c34
                have H' := Aside0.mk H
                clear H
                have hcz35_0 : w5.cell? ⟨gb105, 0, none⟩ = some (.int .i64 a0_0) := (blk_cell BK105.out 0).trans rfl
                have hcz35_1 : w5.cell? ⟨gb105, 1, none⟩ = some (.int .i64 a0_1) := (blk_cell BK105.out 1).trans rfl
                have hcz35_2 : w5.cell? ⟨gb105, 2, none⟩ = some (.int .i64 a0_2) := (blk_cell BK105.out 2).trans rfl
                have hcz35_3 : w5.cell? ⟨gb105, 3, none⟩ = some (.int .i64 a0_3) := (blk_cell BK105.out 3).trans rfl
                have hfz35_0 := blk_frozen BK105.out 0
                have hfz35_1 := blk_frozen BK105.out 1
                have hfz35_2 := blk_frozen BK105.out 2
                have hfz35_3 := blk_frozen BK105.out 3
                go_wp2_with (first | (go_at_call 21; (with_reducible refine (ins_isRegister.calls a0_1 true _ A8.out).mono ?_); rintro e w' ⟨rfl, ⟨nd, rfl⟩⟩) | (go_at_call 21; (with_reducible refine (ins_isRegister.calls a0_2 true _ A10.out).mono ?_); rintro e w' ⟨rfl, ⟨nd, rfl⟩⟩) | (go_at_call 22; (with_reducible refine (ins_shape_width.calls k t106 t113 _ A33.out).mono ?_); rintro e w' ⟨rfl, ⟨nd, rfl⟩⟩))
                go_meet
                case rel => exact ⟨_, ((a0_3 != 0)), (by first | rfl | (simp; done) | (simp [*]; done)), H', ⟨by first | omega | exact Nat.le_refl _⟩, ⟨by (with_reducible repeat (first | refine blk_drewN ?_ _ | refine blk_drew ?_ | refine blk_alloc ?_ _)); exact BK105.out⟩, ⟨by repeat (first | (with_reducible first | exact HB.out | apply below_alloc | apply pw_below_drewN | apply below_drew1 | refine below_set ?_ GE105.out) | exact HB.out)⟩⟩
              · rw [if_neg c34] at H
                have c34b0 : (t113 == 0) = false := beq_eq_false_iff_ne.mpr c34
                have c34b1 : (t113 != 0) = true := bne_iff_ne.mpr c34
                have H' := Aside0.mk H
                clear H
                have hcz36_0 : w5.cell? ⟨gb105, 0, none⟩ = some (.int .i64 a0_0) := (blk_cell BK105.out 0).trans rfl
                have hcz36_1 : w5.cell? ⟨gb105, 1, none⟩ = some (.int .i64 a0_1) := (blk_cell BK105.out 1).trans rfl
                have hcz36_2 : w5.cell? ⟨gb105, 2, none⟩ = some (.int .i64 a0_2) := (blk_cell BK105.out 2).trans rfl
                have hcz36_3 : w5.cell? ⟨gb105, 3, none⟩ = some (.int .i64 a0_3) := (blk_cell BK105.out 3).trans rfl
                have hfz36_0 := blk_frozen BK105.out 0
                have hfz36_1 := blk_frozen BK105.out 1
                have hfz36_2 := blk_frozen BK105.out 2
                have hfz36_3 := blk_frozen BK105.out 3
                go_wp2_with (first | (go_at_call 21; (with_reducible refine (ins_isRegister.calls a0_1 true _ A8.out).mono ?_); rintro e w' ⟨rfl, ⟨nd, rfl⟩⟩) | (go_at_call 21; (with_reducible refine (ins_isRegister.calls a0_2 true _ A10.out).mono ?_); rintro e w' ⟨rfl, ⟨nd, rfl⟩⟩) | (go_at_call 22; (with_reducible refine (ins_shape_width.calls k t106 t113 _ A33.out).mono ?_); rintro e w' ⟨rfl, ⟨nd, rfl⟩⟩))
                go_meet
                case rel => exact ⟨_, (false), (by first | rfl | (simp; done) | (simp [*]; done)), H', ⟨by first | omega | exact Nat.le_refl _⟩, ⟨by (with_reducible repeat (first | refine blk_drewN ?_ _ | refine blk_drew ?_ | refine blk_alloc ?_ _)); exact BK105.out⟩, ⟨by repeat (first | (with_reducible first | exact HB.out | apply below_alloc | apply pw_below_drewN | apply below_drew1 | refine below_set ?_ GE105.out) | exact HB.out)⟩⟩
        · replace c11 := Bool.eq_false_iff.mpr c11
          subst c11
          have H1 : (ins_Encode.j0 k t106 t107 true a0_0 a0_1 a0_2 a0_3) = some (r1, r2) := by rw [if_neg (show ¬ (false = true) by decide)] at H; exact H
          clear H
          have H := H1
          clear H1
          have H' := Aside0.mk H
          clear H
          have hcz37_0 : w5.cell? ⟨gb105, 0, none⟩ = some (.int .i64 a0_0) := (blk_cell BK105.out 0).trans rfl
          have hcz37_1 : w5.cell? ⟨gb105, 1, none⟩ = some (.int .i64 a0_1) := (blk_cell BK105.out 1).trans rfl
          have hcz37_2 : w5.cell? ⟨gb105, 2, none⟩ = some (.int .i64 a0_2) := (blk_cell BK105.out 2).trans rfl
          have hcz37_3 : w5.cell? ⟨gb105, 3, none⟩ = some (.int .i64 a0_3) := (blk_cell BK105.out 3).trans rfl
          have hfz37_0 := blk_frozen BK105.out 0
          have hfz37_1 := blk_frozen BK105.out 1
          have hfz37_2 := blk_frozen BK105.out 2
          have hfz37_3 := blk_frozen BK105.out 3
          go_wp2_with (first | (go_at_call 21; (with_reducible refine (ins_isRegister.calls a0_1 true _ A8.out).mono ?_); rintro e w' ⟨rfl, ⟨nd, rfl⟩⟩) | (go_at_call 21; (with_reducible refine (ins_isRegister.calls a0_2 false _ A10.out).mono ?_); rintro e w' ⟨rfl, ⟨nd, rfl⟩⟩))
          go_meet
          case rel => exact ⟨_, (true), (by first | rfl | (simp; done) | (simp [*]; done)), H', ⟨by first | omega | exact Nat.le_refl _⟩, ⟨by (with_reducible repeat (first | refine blk_drewN ?_ _ | refine blk_drew ?_ | refine blk_alloc ?_ _)); exact BK105.out⟩, ⟨by repeat (first | (with_reducible first | exact HB.out | apply below_alloc | apply pw_below_drewN | apply below_drew1 | refine below_set ?_ GE105.out) | exact HB.out)⟩⟩
      · replace c9 := Bool.eq_false_iff.mpr c9
        subst c9
        have H1 : (ins_Encode.j0 k t106 t107 true a0_0 a0_1 a0_2 a0_3) = some (r1, r2) := by rw [if_neg (show ¬ (false = true) by decide)] at H; exact H
        clear H
        have H := H1
        clear H1
        have H' := Aside0.mk H
        clear H
        have hcz38_0 : w5.cell? ⟨gb105, 0, none⟩ = some (.int .i64 a0_0) := (blk_cell BK105.out 0).trans rfl
        have hcz38_1 : w5.cell? ⟨gb105, 1, none⟩ = some (.int .i64 a0_1) := (blk_cell BK105.out 1).trans rfl
        have hcz38_2 : w5.cell? ⟨gb105, 2, none⟩ = some (.int .i64 a0_2) := (blk_cell BK105.out 2).trans rfl
        have hcz38_3 : w5.cell? ⟨gb105, 3, none⟩ = some (.int .i64 a0_3) := (blk_cell BK105.out 3).trans rfl
        have hfz38_0 := blk_frozen BK105.out 0
        have hfz38_1 := blk_frozen BK105.out 1
        have hfz38_2 := blk_frozen BK105.out 2
        have hfz38_3 := blk_frozen BK105.out 3
        go_wp2_with (first | (go_at_call 21; (with_reducible refine (ins_isRegister.calls a0_1 false _ A8.out).mono ?_); rintro e w' ⟨rfl, ⟨nd, rfl⟩⟩))
        go_meet
        case rel => exact ⟨_, (true), (by first | rfl | (simp; done) | (simp [*]; done)), H', ⟨by first | omega | exact Nat.le_refl _⟩, ⟨by (with_reducible repeat (first | refine blk_drewN ?_ _ | refine blk_drew ?_ | refine blk_alloc ?_ _)); exact BK105.out⟩, ⟨by repeat (first | (with_reducible first | exact HB.out | apply below_alloc | apply pw_below_drewN | apply below_drew1 | refine below_set ?_ GE105.out) | exact HB.out)⟩⟩
  case rest =>
    clear HC4
    try clear c1
    try clear c2
    try clear p2
    try clear c3
    try clear c7
    try clear c7b0
    try clear c7b1
    try clear c9
    try clear c11
    try clear c12
    try clear c12b0
    try clear c13
    try clear c13b0
    try clear c13b1
    try clear c14
    try clear c14b0
    try clear c15
    try clear c15b0
    try clear c15b1
    try clear c17
    try clear c17b0
    try clear c17b1
    try clear c19
    try clear c20
    try clear c22
    try clear c22b0
    try clear c22b1
    try clear c26
    try clear c26b0
    try clear c27
    try clear c27b0
    try clear c27b1
    try clear c29
    try clear c29b0
    try clear c29b1
    try clear c34
    try clear c34b0
    try clear c34b1
    try clear hcz18_0
    try clear hcz18_1
    try clear hcz18_2
    try clear hcz18_3
    try clear hcz19_0
    try clear hcz19_1
    try clear hcz19_2
    try clear hcz19_3
    try clear hcz20_0
    try clear hcz20_1
    try clear hcz20_2
    try clear hcz20_3
    try clear hcz23_0
    try clear hcz23_1
    try clear hcz23_2
    try clear hcz23_3
    try clear hcz24_0
    try clear hcz24_1
    try clear hcz24_2
    try clear hcz24_3
    try clear hcz25_0
    try clear hcz25_1
    try clear hcz25_2
    try clear hcz25_3
    try clear hcz30_0
    try clear hcz30_1
    try clear hcz30_2
    try clear hcz30_3
    try clear hcz31_0
    try clear hcz31_1
    try clear hcz31_2
    try clear hcz31_3
    try clear hcz32_0
    try clear hcz32_1
    try clear hcz32_2
    try clear hcz32_3
    try clear hcz35_0
    try clear hcz35_1
    try clear hcz35_2
    try clear hcz35_3
    try clear hcz36_0
    try clear hcz36_1
    try clear hcz36_2
    try clear hcz36_3
    try clear hcz37_0
    try clear hcz37_1
    try clear hcz37_2
    try clear hcz37_3
    try clear hcz38_0
    try clear hcz38_1
    try clear hcz38_2
    try clear hcz38_3
    try clear hcz6_0
    try clear hcz6_1
    try clear hcz6_2
    try clear hcz6_3
    try clear hfz18_0
    try clear hfz18_1
    try clear hfz18_2
    try clear hfz18_3
    try clear hfz19_0
    try clear hfz19_1
    try clear hfz19_2
    try clear hfz19_3
    try clear hfz20_0
    try clear hfz20_1
    try clear hfz20_2
    try clear hfz20_3
    try clear hfz23_0
    try clear hfz23_1
    try clear hfz23_2
    try clear hfz23_3
    try clear hfz24_0
    try clear hfz24_1
    try clear hfz24_2
    try clear hfz24_3
    try clear hfz25_0
    try clear hfz25_1
    try clear hfz25_2
    try clear hfz25_3
    try clear hfz30_0
    try clear hfz30_1
    try clear hfz30_2
    try clear hfz30_3
    try clear hfz31_0
    try clear hfz31_1
    try clear hfz31_2
    try clear hfz31_3
    try clear hfz32_0
    try clear hfz32_1
    try clear hfz32_2
    try clear hfz32_3
    try clear hfz35_0
    try clear hfz35_1
    try clear hfz35_2
    try clear hfz35_3
    try clear hfz36_0
    try clear hfz36_1
    try clear hfz36_2
    try clear hfz36_3
    try clear hfz37_0
    try clear hfz37_1
    try clear hfz37_2
    try clear hfz37_3
    try clear hfz38_0
    try clear hfz38_1
    try clear hfz38_2
    try clear hfz38_3
    try clear hfz6_0
    try clear hfz6_1
    try clear hfz6_2
    try clear hfz6_3
    obtain ⟨kq, x55_3, rfl, HA, HJ3, BK105, HB⟩ := hcut
    cases kq with
    | zero => exact absurd HA.out (by simp [ins_Encode.j0])
    | succ kj3 =>
      have H := HA.out
      clear HA
      simp only [ins_Encode.j0] at H
      by_cases c39 : x55_3 = true
      · subst c39
        have H1 : (some ((⟨#[]⟩ : ByteArray), 1)) = some (r1, r2) := by rw [if_pos rfl] at H; exact H
        clear H
        have H := H1
        clear H1
        simp only [Option.some.injEq, Prod.mk.injEq] at H
        obtain ⟨rfl, rfl⟩ := H
        go_wp2
        go_ret2
        exact ⟨by first | rfl | (simp [errW_none, errW_some] <;> rfl) | (simp [*, errW_none, errW_some] <;> rfl), by repeat (first | (with_reducible first | exact HB.out | apply below_alloc | apply pw_below_drewN | apply below_drew1 | refine below_set ?_ GE105.out) | exact HB.out)⟩
      · replace c39 := Bool.eq_false_iff.mpr c39
        subst c39
        have H1 : ((some (([(a0_0) % 256] : List Int) : List Int)).bind fun y114 => (if t107 = 1 then (if y114.length < 140737488355328 then (ins_Encode.j1 kj3 t106 (y114 ++ [(a0_1) % 256]) a0_0 a0_1 a0_2 a0_3) else (none)) else (if t107 = 2 then (if y114.length < 140737488355328 then (ins_Encode.j1 kj3 t106 (y114 ++ [(Go.bits .or .i64 (wrap64 (a0_1 * 16)) a0_2) % 256]) a0_0 a0_1 a0_2 a0_3) else (none)) else (ins_Encode.j1 kj3 t106 y114 a0_0 a0_1 a0_2 a0_3)))) = some (r1, r2) := by rw [if_neg (show ¬ (false = true) by decide)] at H; exact H
        clear H
        have H := H1
        clear H1
        obtain ⟨y114, hy114⟩ : ∃ y_ : List Int, y_ = (([(a0_0) % 256] : List Int)) := ⟨_, rfl⟩
        replace H : (if t107 = 1 then (if y114.length < 140737488355328 then (ins_Encode.j1 kj3 t106 (y114 ++ [(a0_1) % 256]) a0_0 a0_1 a0_2 a0_3) else (none)) else (if t107 = 2 then (if y114.length < 140737488355328 then (ins_Encode.j1 kj3 t106 (y114 ++ [(Go.bits .or .i64 (wrap64 (a0_1 * 16)) a0_2) % 256]) a0_0 a0_1 a0_2 a0_3) else (none)) else (ins_Encode.j1 kj3 t106 y114 a0_0 a0_1 a0_2 a0_3))) = some (r1, r2) := by first | (rw [hy114]; with_reducible exact H) | (have H2_ := (Option.bind_some _ _).symm.trans H; rw [hy114]; with_reducible exact H2_) | (have H2_ := (Option.bind_some _ _).symm.trans H; with_reducible exact H2_) | with_reducible exact H | (rw [hy114]; exact H) | exact H
        have Ny114 := Aside0.mk hy114
        clear hy114
        have HC40 := Aside0.mk H
        clear H
        have hcz41_0 : wc.cell? ⟨gb105, 0, none⟩ = some (.int .i64 a0_0) := (blk_cell BK105.out 0).trans rfl
        have hcz41_1 : wc.cell? ⟨gb105, 1, none⟩ = some (.int .i64 a0_1) := (blk_cell BK105.out 1).trans rfl
        have hcz41_2 : wc.cell? ⟨gb105, 2, none⟩ = some (.int .i64 a0_2) := (blk_cell BK105.out 2).trans rfl
        have hcz41_3 : wc.cell? ⟨gb105, 3, none⟩ = some (.int .i64 a0_3) := (blk_cell BK105.out 3).trans rfl
        have hfz41_0 := blk_frozen BK105.out 0
        have hfz41_1 := blk_frozen BK105.out 1
        have hfz41_2 := blk_frozen BK105.out 2
        have hfz41_3 := blk_frozen BK105.out 3
        go_upto_block 0 with (first | ((with_reducible refine gate_dst (N := 59) rfl ?_); refine Kd.R_lit (Kd.int .u8) _ 5 ?hg (N := 59) ?hd (xs := ([(a0_0) % 256] : List Int)) (inner := [.int .u8 ((a0_0) % 256)]) (ok := fun _ => True) (okp := fun _ => True) ?hr ?hp (fun _ hk => hk) trivial (Below.refl _ _) (Nat.le_refl _) (by simp) ?_; (case hd => rfl); (case hg => rfl); (case hr => first | (go_simp; done) | (go_simp; rfl)); (case hp => exact (Reps.one (show Kd.M (Kd.int .u8) _ _ _ ((a0_0) % 256) [.int .u8 ((a0_0) % 256)] from rfl) (Reps.none _ _))); intro v115 w42 ho43 hb hg_ hnew_; clear hg_ hnew_; (first | rw [← Ny114.out] at ho43 | (simp only [Int.reduceToNat] at ho43; rw [← Ny114.out] at ho43)); have n0_ := Aside0.mk (Kd.R_lower ho43 (below_size (by repeat (first | (with_reducible first | exact HB.out | apply below_alloc | apply pw_below_drewN | apply below_drew1 | refine below_set ?_ GE105.out) | exact HB.out)))); have n1_ := Aside0.mk (blk_below (g := gb105) (o := .cells #[.int .i64 a0_0, .int .i64 a0_1, .int .i64 a0_2, .int .i64 a0_3] 23 (0, 0)) (by (with_reducible repeat (first | refine blk_drewN ?_ _ | refine blk_drew ?_ | refine blk_alloc ?_ _)); exact BK105.out) hb); have n2_ := Aside0.mk (below_step (by repeat (first | (with_reducible first | exact HB.out | apply below_alloc | apply pw_below_drewN | apply below_drew1 | refine below_set ?_ GE105.out) | exact HB.out)) hb); clear BK105; clear HB; have HO116 := n0_; have BK105 := n1_; have HB := n2_; clear n0_ n1_ n2_; clear hb ho43))
        (try simp only [Act.put, List.setIfInBounds_toArray, List.set_cons_zero, List.set_cons_succ])
        go_cut [6] (fun v6 wc => ∃ (kq : Nat) (x6_39 : List Int), Aside0 (ins_Encode.j1 kq t106 x6_39 a0_0 a0_1 a0_2 a0_3 = some (r1, r2)) ∧ Aside0 (kq ≤ kj3) ∧ Aside0 (Kd.R (Kd.int .u8) 5 wc w.heap.size (fun _ => True) v6 x6_39) ∧ Aside0 (wc.heap[gb105]? = some (.cells #[.int .i64 a0_0, .int .i64 a0_1, .int .i64 a0_2, .int .i64 a0_3] 23 (0, 0))) ∧ Aside0 (Below w.heap.size w wc))
        case first =>
          have H := HC40.out
          clear HC40
          by_cases c44 : t107 = 1
          · rw [if_pos c44] at H
            have c44b0 : (t107 == 1) = true := beq_iff_eq.mpr c44
            have c44b1 : (t107 != 1) = false := bne_eq_false_iff_eq.mpr c44
            clear c44
            (first | rw [c44b0] | (simp only [i64_w, i32_w]; rw [c44b0]) | skip)
            by_cases c45 : y114.length < 140737488355328
            · rw [if_pos c45] at H
              have LMc45 := Aside0.mk c45
              clear c45
              obtain ⟨y117, hy117⟩ : ∃ y_ : List Int, y_ = (y114 ++ [(a0_1) % 256]) := ⟨_, rfl⟩
              replace H : (ins_Encode.j1 kj3 t106 y117 a0_0 a0_1 a0_2 a0_3) = some (r1, r2) := by first | (rw [hy117]; with_reducible exact H) | (have H2_ := (Option.bind_some _ _).symm.trans H; rw [hy117]; with_reducible exact H2_) | (have H2_ := (Option.bind_some _ _).symm.trans H; with_reducible exact H2_) | with_reducible exact H | (rw [hy117]; exact H) | exact H
              have Ny117 := Aside0.mk hy117
              clear hy117
              have H' := Aside0.mk H
              clear H
              have hcz46_0 : w42.cell? ⟨gb105, 0, none⟩ = some (.int .i64 a0_0) := (blk_cell BK105.out 0).trans rfl
              have hcz46_1 : w42.cell? ⟨gb105, 1, none⟩ = some (.int .i64 a0_1) := (blk_cell BK105.out 1).trans rfl
              have hcz46_2 : w42.cell? ⟨gb105, 2, none⟩ = some (.int .i64 a0_2) := (blk_cell BK105.out 2).trans rfl
              have hcz46_3 : w42.cell? ⟨gb105, 3, none⟩ = some (.int .i64 a0_3) := (blk_cell BK105.out 3).trans rfl
              have hfz46_0 := blk_frozen BK105.out 0
              have hfz46_1 := blk_frozen BK105.out 1
              have hfz46_2 := blk_frozen BK105.out 2
              have hfz46_3 := blk_frozen BK105.out 3
              go_wp2_with (first | ((with_reducible refine gate_builtin (b := .append) (xs := #[.tmp 63, .tmp 67]) rfl ?_); at_builtin; refine Kd.R_append (Kd.int .u8) (w0 := w) w.heap.size rfl (.tmp 63) (.tmp 67) 44 5 (.int .u8 0) 1 rfl Tryd.underlying44 info5 rfl (by decide) (by omega) v115 y114 ((a0_1) % 256) [.int .u8 ((a0_1) % 256)] (fun _ => True) (fun _ => False) rfl rfl ?aP (fun _ hk => hk.elim) ?aF ?aO ?aB ?aS ?aL ?_; (case aP => exact rfl); (case aB => exact (by repeat (first | (with_reducible first | exact HB.out | apply below_alloc | apply pw_below_drewN | apply below_drew1 | refine below_set ?_ GE105.out) | exact HB.out))); (case aF => exact (fun _ _ => trivial)); (case aO => exact (by (with_reducible repeat (first | apply Kd.R_alloc | apply Kd.R_drewN | apply Kd.R_drew)); exact HO116.out)); (case aS => exact (below_size (by repeat (first | (with_reducible first | exact HB.out | apply below_alloc | apply pw_below_drewN | apply below_drew1 | refine below_set ?_ GE105.out) | exact HB.out)))); (case aL => have := LMc45.out; omega); intro v118 w47 ho hb hg hat; rw [← Ny117.out] at ho; have n0_ := Aside0.mk (blk_grown (g := gb105) (o := .cells #[.int .i64 a0_0, .int .i64 a0_1, .int .i64 a0_2, .int .i64 a0_3] 23 (0, 0)) (by (with_reducible repeat (first | refine blk_drewN ?_ _ | refine blk_drew ?_ | refine blk_alloc ?_ _)); exact BK105.out) hg (Kd.R_ne HO116.out BK105.out (by decide))); have n1_ := Aside0.mk (hb); have n2_ := Aside0.mk (ho); clear BK105; clear HB; clear HO116; have BK105 := n0_; have HB := n1_; have HO119 := n2_; clear n0_ n1_ n2_; clear ho hb hg hat))
              go_meet
              case rel => exact ⟨_, (y117), H', ⟨by have := HJ3.out; first | omega | exact Nat.le_refl _⟩, ⟨by (with_reducible repeat (first | apply Kd.R_alloc | apply Kd.R_drewN | apply Kd.R_drew)); exact HO119.out⟩, ⟨by (with_reducible repeat (first | refine blk_drewN ?_ _ | refine blk_drew ?_ | refine blk_alloc ?_ _)); exact BK105.out⟩, ⟨by repeat (first | (with_reducible first | exact HB.out | apply below_alloc | apply pw_below_drewN | apply below_drew1 | refine below_set ?_ GE105.out) | exact HB.out)⟩⟩
            · rw [if_neg c45] at H
              exact absurd H (by simp)
          · rw [if_neg c44] at H
            have c44b0 : (t107 == 1) = false := beq_eq_false_iff_ne.mpr c44
            have c44b1 : (t107 != 1) = true := bne_iff_ne.mpr c44
            (first | rw [c44b0] | (simp only [i64_w, i32_w]; rw [c44b0]) | skip)
            by_cases c48 : t107 = 2
            · rw [if_pos c48] at H
              have c48b0 : (t107 == 2) = true := beq_iff_eq.mpr c48
              have c48b1 : (t107 != 2) = false := bne_eq_false_iff_eq.mpr c48
              clear c48
              by_cases c49 : y114.length < 140737488355328
              · rw [if_pos c49] at H
                have LMc49 := Aside0.mk c49
                clear c49
                obtain ⟨y120, hy120⟩ : ∃ y_ : List Int, y_ = (y114 ++ [(Go.bits .or .i64 (wrap64 (a0_1 * 16)) a0_2) % 256]) := ⟨_, rfl⟩
                replace H : (ins_Encode.j1 kj3 t106 y120 a0_0 a0_1 a0_2 a0_3) = some (r1, r2) := by first | (rw [hy120]; with_reducible exact H) | (have H2_ := (Option.bind_some _ _).symm.trans H; rw [hy120]; with_reducible exact H2_) | (have H2_ := (Option.bind_some _ _).symm.trans H; with_reducible exact H2_) | with_reducible exact H | (rw [hy120]; exact H) | exact H
                have Ny120 := Aside0.mk hy120
                clear hy120
                have H' := Aside0.mk H
                clear H
                have hcz50_0 : w42.cell? ⟨gb105, 0, none⟩ = some (.int .i64 a0_0) := (blk_cell BK105.out 0).trans rfl
                have hcz50_1 : w42.cell? ⟨gb105, 1, none⟩ = some (.int .i64 a0_1) := (blk_cell BK105.out 1).trans rfl
                have hcz50_2 : w42.cell? ⟨gb105, 2, none⟩ = some (.int .i64 a0_2) := (blk_cell BK105.out 2).trans rfl
                have hcz50_3 : w42.cell? ⟨gb105, 3, none⟩ = some (.int .i64 a0_3) := (blk_cell BK105.out 3).trans rfl
                have hfz50_0 := blk_frozen BK105.out 0
                have hfz50_1 := blk_frozen BK105.out 1
                have hfz50_2 := blk_frozen BK105.out 2
                have hfz50_3 := blk_frozen BK105.out 3
                go_wp2_with (first | ((with_reducible refine gate_builtin (b := .append) (xs := #[.tmp 71, .tmp 79]) rfl ?_); at_builtin; refine Kd.R_append (Kd.int .u8) (w0 := w) w.heap.size rfl (.tmp 71) (.tmp 79) 44 5 (.int .u8 0) 1 rfl Tryd.underlying44 info5 rfl (by decide) (by omega) v115 y114 ((Go.bits .or .i64 (wrap64 (a0_1 * 16)) a0_2) % 256) [.int .u8 ((Go.bits .or .i64 (wrap64 (a0_1 * 16)) a0_2) % 256)] (fun _ => True) (fun _ => False) rfl rfl ?aP (fun _ hk => hk.elim) ?aF ?aO ?aB ?aS ?aL ?_; (case aP => exact rfl); (case aB => exact (by repeat (first | (with_reducible first | exact HB.out | apply below_alloc | apply pw_below_drewN | apply below_drew1 | refine below_set ?_ GE105.out) | exact HB.out))); (case aF => exact (fun _ _ => trivial)); (case aO => exact (by (with_reducible repeat (first | apply Kd.R_alloc | apply Kd.R_drewN | apply Kd.R_drew)); exact HO116.out)); (case aS => exact (below_size (by repeat (first | (with_reducible first | exact HB.out | apply below_alloc | apply pw_below_drewN | apply below_drew1 | refine below_set ?_ GE105.out) | exact HB.out)))); (case aL => have := LMc49.out; omega); intro v121 w51 ho hb hg hat; rw [← Ny120.out] at ho; have n0_ := Aside0.mk (blk_grown (g := gb105) (o := .cells #[.int .i64 a0_0, .int .i64 a0_1, .int .i64 a0_2, .int .i64 a0_3] 23 (0, 0)) (by (with_reducible repeat (first | refine blk_drewN ?_ _ | refine blk_drew ?_ | refine blk_alloc ?_ _)); exact BK105.out) hg (Kd.R_ne HO116.out BK105.out (by decide))); have n1_ := Aside0.mk (hb); have n2_ := Aside0.mk (ho); clear BK105; clear HB; clear HO116; have BK105 := n0_; have HB := n1_; have HO122 := n2_; clear n0_ n1_ n2_; clear ho hb hg hat))
                go_meet
                case rel => exact ⟨_, (y120), H', ⟨by have := HJ3.out; first | omega | exact Nat.le_refl _⟩, ⟨by (with_reducible repeat (first | apply Kd.R_alloc | apply Kd.R_drewN | apply Kd.R_drew)); exact HO122.out⟩, ⟨by (with_reducible repeat (first | refine blk_drewN ?_ _ | refine blk_drew ?_ | refine blk_alloc ?_ _)); exact BK105.out⟩, ⟨by repeat (first | (with_reducible first | exact HB.out | apply below_alloc | apply pw_below_drewN | apply below_drew1 | refine below_set ?_ GE105.out) | exact HB.out)⟩⟩
              · rw [if_neg c49] at H
                exact absurd H (by simp)
            · rw [if_neg c48] at H
              have c48b0 : (t107 == 2) = false := beq_eq_false_iff_ne.mpr c48
              have c48b1 : (t107 != 2) = true := bne_iff_ne.mpr c48
              have H' := Aside0.mk H
              clear H
              go_wp2
              go_meet
              case rel => exact ⟨_, (y114), H', ⟨by have := HJ3.out; first | omega | exact Nat.le_refl _⟩, ⟨by (with_reducible repeat (first | apply Kd.R_alloc | apply Kd.R_drewN | apply Kd.R_drew)); exact HO116.out⟩, ⟨by (with_reducible repeat (first | refine blk_drewN ?_ _ | refine blk_drew ?_ | refine blk_alloc ?_ _)); exact BK105.out⟩, ⟨by repeat (first | (with_reducible first | exact HB.out | apply below_alloc | apply pw_below_drewN | apply below_drew1 | refine below_set ?_ GE105.out) | exact HB.out)⟩⟩
        case rest =>
          clear HC40
          try clear c1
          try clear c2
          try clear p2
          try clear c3
          try clear c4
          try clear p6
          try clear c7
          try clear c7b0
          try clear c7b1
          try clear c9
          try clear c11
          try clear c12
          try clear c12b0
          try clear c13
          try clear c13b0
          try clear c13b1
          try clear c14
          try clear c14b0
          try clear c15
          try clear c15b0
          try clear c15b1
          try clear c17
          try clear c17b0
          try clear c17b1
          try clear c19
          try clear c20
          try clear c22
          try clear c22b0
          try clear c22b1
          try clear c26
          try clear c26b0
          try clear c27
          try clear c27b0
          try clear c27b1
          try clear c29
          try clear c29b0
          try clear c29b1
          try clear c34
          try clear c34b0
          try clear c34b1
          try clear c39
          try clear c44
          try clear c44b0
          try clear c44b1
          try clear c45
          try clear c48
          try clear c48b0
          try clear c48b1
          try clear c49
          try clear hcz18_0
          try clear hcz18_1
          try clear hcz18_2
          try clear hcz18_3
          try clear hcz19_0
          try clear hcz19_1
          try clear hcz19_2
          try clear hcz19_3
          try clear hcz20_0
          try clear hcz20_1
          try clear hcz20_2
          try clear hcz20_3
          try clear hcz23_0
          try clear hcz23_1
          try clear hcz23_2
          try clear hcz23_3
          try clear hcz24_0
          try clear hcz24_1
          try clear hcz24_2
          try clear hcz24_3
          try clear hcz25_0
          try clear hcz25_1
          try clear hcz25_2
          try clear hcz25_3
          try clear hcz30_0
          try clear hcz30_1
          try clear hcz30_2
          try clear hcz30_3
          try clear hcz31_0
          try clear hcz31_1
          try clear hcz31_2
          try clear hcz31_3
          try clear hcz32_0
          try clear hcz32_1
          try clear hcz32_2
          try clear hcz32_3
          try clear hcz35_0
          try clear hcz35_1
          try clear hcz35_2
          try clear hcz35_3
          try clear hcz36_0
          try clear hcz36_1
          try clear hcz36_2
          try clear hcz36_3
          try clear hcz37_0
          try clear hcz37_1
          try clear hcz37_2
          try clear hcz37_3
          try clear hcz38_0
          try clear hcz38_1
          try clear hcz38_2
          try clear hcz38_3
          try clear hcz41_0
          try clear hcz41_1
          try clear hcz41_2
          try clear hcz41_3
          try clear hcz46_0
          try clear hcz46_1
          try clear hcz46_2
          try clear hcz46_3
          try clear hcz50_0
          try clear hcz50_1
          try clear hcz50_2
          try clear hcz50_3
          try clear hcz6_0
          try clear hcz6_1
          try clear hcz6_2
          try clear hcz6_3
          try clear hfz18_0
          try clear hfz18_1
          try clear hfz18_2
          try clear hfz18_3
          try clear hfz19_0
          try clear hfz19_1
          try clear hfz19_2
          try clear hfz19_3
          try clear hfz20_0
          try clear hfz20_1
          try clear hfz20_2
          try clear hfz20_3
          try clear hfz23_0
          try clear hfz23_1
          try clear hfz23_2
          try clear hfz23_3
          try clear hfz24_0
          try clear hfz24_1
          try clear hfz24_2
          try clear hfz24_3
          try clear hfz25_0
          try clear hfz25_1
          try clear hfz25_2
          try clear hfz25_3
          try clear hfz30_0
          try clear hfz30_1
          try clear hfz30_2
          try clear hfz30_3
          try clear hfz31_0
          try clear hfz31_1
          try clear hfz31_2
          try clear hfz31_3
          try clear hfz32_0
          try clear hfz32_1
          try clear hfz32_2
          try clear hfz32_3
          try clear hfz35_0
          try clear hfz35_1
          try clear hfz35_2
          try clear hfz35_3
          try clear hfz36_0
          try clear hfz36_1
          try clear hfz36_2
          try clear hfz36_3
          try clear hfz37_0
          try clear hfz37_1
          try clear hfz37_2
          try clear hfz37_3
          try clear hfz38_0
          try clear hfz38_1
          try clear hfz38_2
          try clear hfz38_3
          try clear hfz41_0
          try clear hfz41_1
          try clear hfz41_2
          try clear hfz41_3
          try clear hfz46_0
          try clear hfz46_1
          try clear hfz46_2
          try clear hfz46_3
          try clear hfz50_0
          try clear hfz50_1
          try clear hfz50_2
          try clear hfz50_3
          try clear hfz6_0
          try clear hfz6_1
          try clear hfz6_2
          try clear hfz6_3
          try clear p2
          obtain ⟨kq, x6_39, HA, HJ39, HO_6, BK105, HB⟩ := hcut
          cases kq with
          | zero => exact absurd HA.out (by simp [ins_Encode.j1])
          | succ kj39 =>
            have H := HA.out
            clear HA
            simp only [ins_Encode.j1] at H
            have HC52 := Aside0.mk H
            clear H
            go_upto_region 11 with (fail)
            go_cut [87] (fun v87 wc => ∃ (kq : Nat) (x87_51 : Bool), v87 = .bool x87_51 ∧ Aside0 (ins_Encode.j2 kq t106 x6_39 x87_51 a0_0 a0_1 a0_2 a0_3 = some (r1, r2)) ∧ Aside0 (kq ≤ kj39) ∧ Aside0 (Kd.R (Kd.int .u8) 5 wc w.heap.size (fun _ => True) u6 x6_39) ∧ Aside0 (wc.heap[gb105]? = some (.cells #[.int .i64 a0_0, .int .i64 a0_1, .int .i64 a0_2, .int .i64 a0_3] 23 (0, 0))) ∧ Aside0 (Below w.heap.size w wc))
            case first =>
              have H := HC52.out
              clear HC52
              by_cases c53 : t106 = 10
              · rw [if_pos c53] at H
                have c53b0 : (t106 == 10) = true := beq_iff_eq.mpr c53
                have c53b1 : (t106 != 10) = false := bne_eq_false_iff_eq.mpr c53
                clear c53
                (first | rw [c53b0] | (simp only [i64_w, i32_w]; rw [c53b0]) | skip)
                have H' := Aside0.mk H
                clear H
                have hcz54_0 : wc.cell? ⟨gb105, 0, none⟩ = some (.int .i64 a0_0) := (blk_cell BK105.out 0).trans rfl
                have hcz54_1 : wc.cell? ⟨gb105, 1, none⟩ = some (.int .i64 a0_1) := (blk_cell BK105.out 1).trans rfl
                have hcz54_2 : wc.cell? ⟨gb105, 2, none⟩ = some (.int .i64 a0_2) := (blk_cell BK105.out 2).trans rfl
                have hcz54_3 : wc.cell? ⟨gb105, 3, none⟩ = some (.int .i64 a0_3) := (blk_cell BK105.out 3).trans rfl
                have hfz54_0 := blk_frozen BK105.out 0
                have hfz54_1 := blk_frozen BK105.out 1
                have hfz54_2 := blk_frozen BK105.out 2
                have hfz54_3 := blk_frozen BK105.out 3
                go_wp2
                go_meet
                case rel => exact ⟨_, (decide (a0_3 < 0)), (by first | rfl | (simp; done) | (simp [*]; done)), H', ⟨by have := HJ3.out; have := HJ39.out; first | omega | exact Nat.le_refl _⟩, ⟨by (with_reducible repeat (first | apply Kd.R_alloc | apply Kd.R_drewN | apply Kd.R_drew)); exact HO_6.out⟩, ⟨by (with_reducible repeat (first | refine blk_drewN ?_ _ | refine blk_drew ?_ | refine blk_alloc ?_ _)); exact BK105.out⟩, ⟨by repeat (first | (with_reducible first | exact HB.out | apply below_alloc | apply pw_below_drewN | apply below_drew1 | refine below_set ?_ GE105.out) | exact HB.out)⟩⟩
              · rw [if_neg c53] at H
                have c53b0 : (t106 == 10) = false := beq_eq_false_iff_ne.mpr c53
                have c53b1 : (t106 != 10) = true := bne_iff_ne.mpr c53
                (first | rw [c53b0] | (simp only [i64_w, i32_w]; rw [c53b0]) | skip)
                have H' := Aside0.mk H
                clear H
                go_wp2
                go_meet
                case rel => exact ⟨_, (false), (by first | rfl | (simp; done) | (simp [*]; done)), H', ⟨by have := HJ3.out; have := HJ39.out; first | omega | exact Nat.le_refl _⟩, ⟨by (with_reducible repeat (first | apply Kd.R_alloc | apply Kd.R_drewN | apply Kd.R_drew)); exact HO_6.out⟩, ⟨by (with_reducible repeat (first | refine blk_drewN ?_ _ | refine blk_drew ?_ | refine blk_alloc ?_ _)); exact BK105.out⟩, ⟨by repeat (first | (with_reducible first | exact HB.out | apply below_alloc | apply pw_below_drewN | apply below_drew1 | refine below_set ?_ GE105.out) | exact HB.out)⟩⟩
            case rest =>
              clear HC52
              try clear c1
              try clear c2
              try clear p2
              try clear c3
              try clear c4
              try clear c5
              try clear p6
              try clear c7
              try clear c7b0
              try clear c7b1
              try clear c9
              try clear c11
              try clear c12
              try clear c12b0
              try clear c13
              try clear c13b0
              try clear c13b1
              try clear c14
              try clear c14b0
              try clear c15
              try clear c15b0
              try clear c15b1
              try clear c17
              try clear c17b0
              try clear c17b1
              try clear c19
              try clear c20
              try clear c22
              try clear c22b0
              try clear c22b1
              try clear c26
              try clear c26b0
              try clear c27
              try clear c27b0
              try clear c27b1
              try clear c29
              try clear c29b0
              try clear c29b1
              try clear c34
              try clear c34b0
              try clear c34b1
              try clear c39
              try clear c44
              try clear c44b0
              try clear c44b1
              try clear c45
              try clear c48
              try clear c48b0
              try clear c48b1
              try clear c49
              try clear c53
              try clear c53b0
              try clear c53b1
              try clear hcz18_0
              try clear hcz18_1
              try clear hcz18_2
              try clear hcz18_3
              try clear hcz19_0
              try clear hcz19_1
              try clear hcz19_2
              try clear hcz19_3
              try clear hcz20_0
              try clear hcz20_1
              try clear hcz20_2
              try clear hcz20_3
              try clear hcz23_0
              try clear hcz23_1
              try clear hcz23_2
              try clear hcz23_3
              try clear hcz24_0
              try clear hcz24_1
              try clear hcz24_2
              try clear hcz24_3
              try clear hcz25_0
              try clear hcz25_1
              try clear hcz25_2
              try clear hcz25_3
              try clear hcz30_0
              try clear hcz30_1
              try clear hcz30_2
              try clear hcz30_3
              try clear hcz31_0
              try clear hcz31_1
              try clear hcz31_2
              try clear hcz31_3
              try clear hcz32_0
              try clear hcz32_1
              try clear hcz32_2
              try clear hcz32_3
              try clear hcz35_0
              try clear hcz35_1
              try clear hcz35_2
              try clear hcz35_3
              try clear hcz36_0
              try clear hcz36_1
              try clear hcz36_2
              try clear hcz36_3
              try clear hcz37_0
              try clear hcz37_1
              try clear hcz37_2
              try clear hcz37_3
              try clear hcz38_0
              try clear hcz38_1
              try clear hcz38_2
              try clear hcz38_3
              try clear hcz41_0
              try clear hcz41_1
              try clear hcz41_2
              try clear hcz41_3
              try clear hcz46_0
              try clear hcz46_1
              try clear hcz46_2
              try clear hcz46_3
              try clear hcz50_0
              try clear hcz50_1
              try clear hcz50_2
              try clear hcz50_3
              try clear hcz54_0
              try clear hcz54_1
              try clear hcz54_2
              try clear hcz54_3
              try clear hcz6_0
              try clear hcz6_1
              try clear hcz6_2
              try clear hcz6_3
              try clear hfz18_0
              try clear hfz18_1
              try clear hfz18_2
              try clear hfz18_3
              try clear hfz19_0
              try clear hfz19_1
              try clear hfz19_2
              try clear hfz19_3
              try clear hfz20_0
              try clear hfz20_1
              try clear hfz20_2
              try clear hfz20_3
              try clear hfz23_0
              try clear hfz23_1
              try clear hfz23_2
              try clear hfz23_3
              try clear hfz24_0
              try clear hfz24_1
              try clear hfz24_2
              try clear hfz24_3
              try clear hfz25_0
              try clear hfz25_1
              try clear hfz25_2
              try clear hfz25_3
              try clear hfz30_0
              try clear hfz30_1
              try clear hfz30_2
              try clear hfz30_3
              try clear hfz31_0
              try clear hfz31_1
              try clear hfz31_2
              try clear hfz31_3
              try clear hfz32_0
              try clear hfz32_1
              try clear hfz32_2
              try clear hfz32_3
              try clear hfz35_0
              try clear hfz35_1
              try clear hfz35_2
              try clear hfz35_3
              try clear hfz36_0
              try clear hfz36_1
              try clear hfz36_2
              try clear hfz36_3
              try clear hfz37_0
              try clear hfz37_1
              try clear hfz37_2
              try clear hfz37_3
              try clear hfz38_0
              try clear hfz38_1
              try clear hfz38_2
              try clear hfz38_3
              try clear hfz41_0
              try clear hfz41_1
              try clear hfz41_2
              try clear hfz41_3
              try clear hfz46_0
              try clear hfz46_1
              try clear hfz46_2
              try clear hfz46_3
              try clear hfz50_0
              try clear hfz50_1
              try clear hfz50_2
              try clear hfz50_3
              try clear hfz54_0
              try clear hfz54_1
              try clear hfz54_2
              try clear hfz54_3
              try clear hfz6_0
              try clear hfz6_1
              try clear hfz6_2
              try clear hfz6_3
              try clear p2
              try clear p6
              obtain ⟨kq, x87_51, rfl, HA, HJ51, HO_6, BK105, HB⟩ := hcut
              cases kq with
              | zero => exact absurd HA.out (by simp [ins_Encode.j2])
              | succ kj51 =>
                have H := HA.out
                clear HA
                simp only [ins_Encode.j2] at H
                by_cases c55 : x87_51 = true
                · subst c55
                  have H1 : (some ((⟨#[]⟩ : ByteArray), 7)) = some (r1, r2) := by rw [if_pos rfl] at H; exact H
                  clear H
                  have H := H1
                  clear H1
                  simp only [Option.some.injEq, Prod.mk.injEq] at H
                  obtain ⟨rfl, rfl⟩ := H
                  go_wp2
                  go_ret2
                  exact ⟨by first | rfl | (simp [errW_none, errW_some] <;> rfl) | (simp [*, errW_none, errW_some] <;> rfl), by repeat (first | (with_reducible first | exact HB.out | apply below_alloc | apply pw_below_drewN | apply below_drew1 | refine below_set ?_ GE105.out) | exact HB.out)⟩
                · replace c55 := Bool.eq_false_iff.mpr c55
                  subst c55
                  have H1 : ((ins_shape_width.f kj51 t106).bind fun t123 => (if t123 > 0 then ((ins_shape_width.f kj51 t106).bind fun t124 => ((word_Bytes.f kj51 a0_3 t124).bind fun bt125 => (if bt125.2 = 0 then (if x6_39.length + bt125.1.size < 140737488355328 then (some (strOfNums (x6_39 ++ bytesOf bt125.1), 0)) else (none)) else (some ((⟨#[]⟩ : ByteArray), bt125.2))))) else (some (strOfNums x6_39, 0)))) = some (r1, r2) := by rw [if_neg (show ¬ (false = true) by decide)] at H; exact H
                  clear H
                  have H := H1
                  clear H1
                  replace H := Option.bind_eq_some_iff.mp H
                  obtain ⟨t123, A560, H⟩ := H
                  replace H : (if t123 > 0 then ((ins_shape_width.f kj51 t106).bind fun t124 => ((word_Bytes.f kj51 a0_3 t124).bind fun bt125 => (if bt125.2 = 0 then (if x6_39.length + bt125.1.size < 140737488355328 then (some (strOfNums (x6_39 ++ bytesOf bt125.1), 0)) else (none)) else (some ((⟨#[]⟩ : ByteArray), bt125.2))))) else (some (strOfNums x6_39, 0))) = some (r1, r2) := H
                  have A56 := Aside0.mk A560
                  clear A560
                  by_cases c57 : t123 > 0
                  · rw [if_pos c57] at H
                    have c57b0 : decide (0 < t123) = true := decide_eq_true c57
                    clear c57
                    replace H := Option.bind_eq_some_iff.mp H
                    obtain ⟨t124, A580, H⟩ := H
                    replace H : ((word_Bytes.f kj51 a0_3 t124).bind fun bt125 => (if bt125.2 = 0 then (if x6_39.length + bt125.1.size < 140737488355328 then (some (strOfNums (x6_39 ++ bytesOf bt125.1), 0)) else (none)) else (some ((⟨#[]⟩ : ByteArray), bt125.2)))) = some (r1, r2) := H
                    have A58 := Aside0.mk A580
                    clear A580
                    replace H := Option.bind_eq_some_iff.mp H
                    obtain ⟨⟨t125, t126⟩, A590, H⟩ := H
                    replace H : (if t126 = 0 then (if x6_39.length + t125.size < 140737488355328 then (some (strOfNums (x6_39 ++ bytesOf t125), 0)) else (none)) else (some ((⟨#[]⟩ : ByteArray), t126))) = some (r1, r2) := H
                    have A59 := Aside0.mk A590
                    clear A590
                    by_cases c60 : t126 = 0
                    · rw [if_pos c60] at H
                      have c60b0 : (t126 == 0) = true := beq_iff_eq.mpr c60
                      have c60b1 : (t126 != 0) = false := bne_eq_false_iff_eq.mpr c60
                      clear c60
                      by_cases c61 : x6_39.length + t125.size < 140737488355328
                      · rw [if_pos c61] at H
                        have LMc61 := Aside0.mk c61
                        clear c61
                        obtain ⟨y127, hy127⟩ : ∃ y_ : List Int, y_ = (x6_39 ++ bytesOf t125) := ⟨_, rfl⟩
                        replace H : (some (strOfNums y127, 0)) = some (r1, r2) := by first | (rw [hy127]; with_reducible exact H) | (have H2_ := (Option.bind_some _ _).symm.trans H; rw [hy127]; with_reducible exact H2_) | (have H2_ := (Option.bind_some _ _).symm.trans H; with_reducible exact H2_) | with_reducible exact H | (rw [hy127]; exact H) | exact H
                        have Ny127 := Aside0.mk hy127
                        clear hy127
                        simp only [Option.some.injEq, Prod.mk.injEq] at H
                        obtain ⟨rfl, rfl⟩ := H
                        try go_wp2_with (first | ((with_reducible refine gate_callee (f := 22) rfl ?_); refine goesL_ (some 89) rfl rfl Tryd.func22 (by kernel_rfl) rfl #[.int .u8 t106] rfl (by (try simp only [List.map_toArray, List.map_cons, List.map_nil]); first | done | rfl | (simp only [List.length_drop, List.length_take]; rfl)) ?_; (with_reducible refine (ins_shape_width.calls kj51 t106 t123 _ A56.out).mono ?_); rintro e w' ⟨rfl, ⟨nd, rfl⟩⟩; refine ⟨_, rfl, ?_⟩))
                        (try (rw [drewN_self wc]; generalize hq_ : World.drewN wc _ = wc; have n0_ : Aside0 (Kd.R (Kd.int .u8) 5 wc w.heap.size (fun _ => True) u6 x6_39) := ⟨by rw [← hq_]; exact (by (with_reducible repeat (first | apply Kd.R_alloc | apply Kd.R_drewN | apply Kd.R_drew)); exact HO_6.out)⟩; have n1_ : Aside0 (wc.heap[gb105]? = some (.cells #[.int .i64 a0_0, .int .i64 a0_1, .int .i64 a0_2, .int .i64 a0_3] 23 (0, 0))) := ⟨by rw [← hq_]; exact (by (with_reducible repeat (first | refine blk_drewN ?_ _ | refine blk_drew ?_ | refine blk_alloc ?_ _)); exact BK105.out)⟩; have n2_ : Aside0 (Below w.heap.size w wc) := ⟨by rw [← hq_]; exact (by repeat (first | (with_reducible first | exact HB.out | apply below_alloc | apply pw_below_drewN | apply below_drew1 | refine below_set ?_ GE105.out) | exact HB.out))⟩; clear HO_6 BK105 HB hq_; have HO_6 := n0_; have BK105 := n1_; have HB := n2_; clear n0_ n1_ n2_; have hcq105_0 : wc.cell? ⟨gb105, 0, none⟩ = some (.int .i64 a0_0) := (blk_cell BK105.out 0).trans rfl; have hfq105_0 := blk_frozen BK105.out 0; have hcq105_1 : wc.cell? ⟨gb105, 1, none⟩ = some (.int .i64 a0_1) := (blk_cell BK105.out 1).trans rfl; have hfq105_1 := blk_frozen BK105.out 1; have hcq105_2 : wc.cell? ⟨gb105, 2, none⟩ = some (.int .i64 a0_2) := (blk_cell BK105.out 2).trans rfl; have hfq105_2 := blk_frozen BK105.out 2; have hcq105_3 : wc.cell? ⟨gb105, 3, none⟩ = some (.int .i64 a0_3) := (blk_cell BK105.out 3).trans rfl; have hfq105_3 := blk_frozen BK105.out 3))
                        have o_HO_6 := HO_6
                        have n0_ := Aside0.mk (Kd.R_drew HO_6.out)
                        have o_BK105 := BK105
                        have n1_ := Aside0.mk (blk_drew BK105.out)
                        have o_HB := HB
                        have n2_ := Aside0.mk (below_drew1 HB.out)
                        clear HO_6
                        clear BK105
                        clear HB
                        have HO_6 := n0_
                        have BK105 := n1_
                        have HB := n2_
                        clear n0_ n1_ n2_
                        refine start_ (n := 10) (S := fun w' => w'.cell? ⟨gb105, 0, none⟩ = some (.int .i64 a0_0) ∧ w'.cell? ⟨gb105, 1, none⟩ = some (.int .i64 a0_1) ∧ w'.cell? ⟨gb105, 2, none⟩ = some (.int .i64 a0_2) ∧ w'.cell? ⟨gb105, 3, none⟩ = some (.int .i64 a0_3)) (ds := []) #[false, false, false, false, false, false, false, false, false, false] (by kernel_rfl) rfl rfl ⟨(blk_cell BK105.out 0).trans rfl, (blk_cell BK105.out 1).trans rfl, (blk_cell BK105.out 2).trans rfl, (blk_cell BK105.out 3).trans rfl⟩ (fun hHeld => ?_); refine with_tabW ins_Encode.tab14 ins_Encode.bits14 (fun HT_ HW_ => ?_)
                        first | (generalize hwd_ : wc.drewN _ = w62 at hHeld ⊢; obtain ⟨nN_, hn_⟩ : ∃ n_, wc.drewN n_ = w62 := ⟨_, hwd_⟩; clear HO_6 BK105 HB; have HO_6 := Aside0.mk (Kd.R_drewN o_HO_6.out nN_); rw [hn_] at HO_6; have BK105 := Aside0.mk (blk_drewN o_BK105.out nN_); rw [hn_] at BK105; have HB := Aside0.mk (pw_below_drewN o_HB.out nN_); rw [hn_] at HB; clear hn_ hwd_) | generalize wc.drew = w62 at HO_6 BK105 HB hHeld ⊢
                        refine pure_ (i := 0) (N := some 92) (v := ?_) (a' := ?_) #[true, false, false, false, false, false, false, false, false, false] rfl rfl (any_of HT_.out (by kernel_rfl)) (fun _ _ _ h => h) (Or.inl ⟨by rfl, ?_⟩) ?_ ?_
                        rotate_left
                        · intro w'
                          go_simp
                          with_reducible rfl
                        rotate_left
                        · simp only [Act.put, List.setIfInBounds_toArray, List.set_cons_zero, List.set_cons_succ, i64_w, i32_w]
                          rfl
                        refine pure_ (i := 2) (N := some 94) (v := ?_) (a' := ?_) #[true, false, true, false, false, false, false, false, false, false] rfl rfl (any_of HT_.out (by kernel_rfl)) (fun _ _ _ h => h) (Or.inl ⟨by rfl, ?_⟩) ?_ ?_
                        rotate_left
                        · intro w'
                          go_simp
                          with_reducible rfl
                        rotate_left
                        · simp only [Act.put, List.setIfInBounds_toArray, List.set_cons_zero, List.set_cons_succ, i64_w, i32_w]
                          rfl
                        refine take_ (i := 1) (N := some 93) (v := ?_) (a' := ?_) #[true, true, true, false, false, false, false, false, false, false] rfl rfl (take_ofW HT_.out HW_.out (by kernel_rfl)) (fun _ _ _ h => h) (Or.inl ⟨by rfl, ?_⟩) hHeld ?_ ?_
                        rotate_left
                        · rintro w' ⟨s0, s1, s2, s3⟩
                          go_simp
                          with_reducible rfl
                        rotate_left
                        · simp only [Act.put, List.setIfInBounds_toArray, List.set_cons_zero, List.set_cons_succ, i64_w, i32_w]
                          rfl
                        refine one_ (i := 3) (N := some 95) #[true, true, true, true, false, false, false, false, false, false] rfl rfl (one_of HT_.out (by kernel_rfl)) (by decide) (fun K hK => ?_)
                        refine goes_ Tryd.func22 (by kernel_rfl) rfl #[.int .u8 t106] (by rfl) rfl rfl (by (try simp only [List.map_toArray, List.map_cons, List.map_nil]); first | done | rfl | (simp only [List.length_drop, List.length_take]; rfl)) ?_
                        with_reducible refine (ins_shape_width.calls kj51 t106 t124 _ A58.out).mono ?_
                        rintro e w' ⟨rfl, ⟨nd, rfl⟩⟩
                        refine ⟨_, rfl, ?_⟩
                        refine hK.out _ _ ⟨(blk_cell BK105.out 0).trans rfl, (blk_cell BK105.out 1).trans rfl, (blk_cell BK105.out 2).trans rfl, (blk_cell BK105.out 3).trans rfl⟩ (fun hHeld => ?_)
                        clear hK K
                        refine norm_ (a' := ?_) ?_ ?_
                        rotate_left
                        · show Act.put _ (some 95) _ = _
                          simp only [Act.put, List.setIfInBounds_toArray, List.set_cons_zero, List.set_cons_succ, i64_w, i32_w]
                          rfl
                        refine one_ (i := 4) (N := some 96) #[true, true, true, true, true, false, false, false, false, false] rfl rfl (one_of HT_.out (by kernel_rfl)) (by decide) (fun K hK => ?_)
                        refine goes_ Tryd.func23 (by kernel_rfl) rfl #[.int .i64 a0_3, .int .i64 t124] (by rfl) rfl rfl (by (try simp only [List.map_toArray, List.map_cons, List.map_nil]); first | done | rfl | (simp only [List.length_drop, List.length_take]; rfl)) ?_
                        with_reducible refine (word_Bytes.calls kj51 a0_3 t124 t125 t126 _ A59.out).mono ?_
                        rintro e w63 ⟨rfl, hb⟩
                        refine ⟨_, rfl, ?_⟩
                        have n0_ := Aside0.mk (Kd.R_below (by (with_reducible repeat (first | apply Kd.R_alloc | apply Kd.R_drewN | apply Kd.R_drew)); exact HO_6.out) hb)
                        have n1_ := Aside0.mk (blk_below (g := gb105) (o := .cells #[.int .i64 a0_0, .int .i64 a0_1, .int .i64 a0_2, .int .i64 a0_3] 23 (0, 0)) (by (with_reducible repeat (first | refine blk_drewN ?_ _ | refine blk_drew ?_ | refine blk_alloc ?_ _)); exact BK105.out) hb)
                        have n2_ := Aside0.mk (below_step (by repeat (first | (with_reducible first | exact HB.out | apply below_alloc | apply pw_below_drewN | apply below_drew1 | refine below_set ?_ GE105.out) | exact HB.out)) hb)
                        clear HO_6
                        clear BK105
                        clear HB
                        have HO_6 := n0_
                        have BK105 := n1_
                        have HB := n2_
                        clear n0_ n1_ n2_
                        (try clear hb)
                        (try clear hb2)
                        (try clear hk)
                        (try clear hi)
                        refine hK.out _ _ ⟨(blk_cell BK105.out 0).trans rfl, (blk_cell BK105.out 1).trans rfl, (blk_cell BK105.out 2).trans rfl, (blk_cell BK105.out 3).trans rfl⟩ (fun hHeld => ?_)
                        clear hK K
                        refine norm_ (a' := ?_) ?_ ?_
                        rotate_left
                        · show Act.put _ (some 96) _ = _
                          simp only [Act.put, List.setIfInBounds_toArray, List.set_cons_zero, List.set_cons_succ, i64_w, i32_w]
                          rfl
                        refine pure_ (i := 5) (N := some 91) (v := ?_) (a' := ?_) #[true, true, true, true, true, true, false, false, false, false] rfl rfl (any_of HT_.out (by kernel_rfl)) (fun _ _ _ h => h) (Or.inl ⟨by rfl, ?_⟩) ?_ ?_
                        rotate_left
                        · intro w'
                          go_simp
                          with_reducible rfl
                        rotate_left
                        · simp only [Act.put, List.setIfInBounds_toArray, List.set_cons_zero, List.set_cons_succ, i64_w, i32_w]
                          rfl
                        refine pure_ (i := 6) (N := some 97) (v := ?_) (a' := ?_) #[true, true, true, true, true, true, true, false, false, false] rfl rfl (any_of HT_.out (by kernel_rfl)) (fun _ _ _ h => h) (Or.inl ⟨by rfl, ?_⟩) ?_ ?_
                        rotate_left
                        · intro w'
                          go_simp
                          with_reducible rfl
                        rotate_left
                        · simp only [Act.put, List.setIfInBounds_toArray, List.set_cons_zero, List.set_cons_succ, i64_w, i32_w]
                          rfl
                        refine pure_ (i := 7) (N := some 98) (v := ?_) (a' := ?_) #[true, true, true, true, true, true, true, true, false, false] rfl rfl (any_of HT_.out (by kernel_rfl)) (fun _ _ _ h => h) (Or.inl ⟨by rfl, ?_⟩) ?_ ?_
                        rotate_left
                        · intro w'
                          go_simp
                          with_reducible rfl
                        rotate_left
                        · simp only [Act.put, List.setIfInBounds_toArray, List.set_cons_zero, List.set_cons_succ, i64_w, i32_w]
                          rfl
                        refine pure_ (i := 8) (N := some 7) (v := ?_) (a' := ?_) #[true, true, true, true, true, true, true, true, true, false] rfl rfl (any_of HT_.out (by kernel_rfl)) (fun _ _ _ h => h) (Or.inl ⟨by rfl, ?_⟩) ?_ ?_
                        rotate_left
                        · intro w'
                          go_simp
                          with_reducible rfl
                        rotate_left
                        · simp only [Act.put, List.setIfInBounds_toArray, List.set_cons_zero, List.set_cons_succ, i64_w, i32_w]
                          rfl
                        refine pure_ (i := 9) (N := some 8) (v := ?_) (a' := ?_) #[true, true, true, true, true, true, true, true, true, true] rfl rfl (any_of HT_.out (by kernel_rfl)) (fun _ _ _ h => h) (Or.inl ⟨by rfl, ?_⟩) ?_ ?_
                        rotate_left
                        · intro w'
                          go_simp
                          with_reducible rfl
                        rotate_left
                        · simp only [Act.put, List.setIfInBounds_toArray, List.set_cons_zero, List.set_cons_succ, i64_w, i32_w]
                          rfl
                        refine done_ (done_of HT_.out (by kernel_rfl)) ?_
                        try go_wp2_with (first | (at_builtin; refine print_append_str (w0 := w) w.heap.size rfl (.tmp 102) _ 44 9 5 rfl Tryd.underlying44 Tryd.underlying9 info5 u6 x6_39 t125 rfl rfl ?aO ?aB ?aS ?aL ?_; (case aB => exact (by repeat (first | (with_reducible first | exact HB.out | apply below_alloc | apply pw_below_drewN | apply below_drew1 | refine below_set ?_ GE105.out) | exact HB.out))); (case aO => exact (Kd.own_of_R (by (with_reducible repeat (first | apply Kd.R_alloc | apply Kd.R_drewN | apply Kd.R_drew)); exact HO_6.out))); (case aS => exact (below_size (by repeat (first | (with_reducible first | exact HB.out | apply below_alloc | apply pw_below_drewN | apply below_drew1 | refine below_set ?_ GE105.out) | exact HB.out)))); (case aL => have := LMc61.out; omega); intro v128 w64 ho0 hb hg; have ho := Kd.R_of_own (h1 := fun _ => rfl) (ok := fun _ => True) ho0 (fun _ _ => trivial); clear ho0; have hat := True.intro; rw [← Ny127.out] at ho; change Kd.R (Kd.int .u8) 5 w64 w.heap.size (fun _ => True) v128 y127 at ho; have n0_ := Aside0.mk (blk_grown (g := gb105) (o := .cells #[.int .i64 a0_0, .int .i64 a0_1, .int .i64 a0_2, .int .i64 a0_3] 23 (0, 0)) (by (with_reducible repeat (first | refine blk_drewN ?_ _ | refine blk_drew ?_ | refine blk_alloc ?_ _)); exact BK105.out) hg (Kd.R_ne HO_6.out BK105.out (by decide))); have n1_ := Aside0.mk (hb); have n2_ := Aside0.mk (ho); clear BK105; clear HB; clear HO_6; have BK105 := n0_; have HB := n1_; have HO129 := n2_; clear n0_ n1_ n2_; clear ho hb hg hat; have hcv65 := own_string (P := Tryd.prog) Tryd.underlying44 Tryd.underlying5 Tryd.underlying9 (Kd.own_of_R HO129.out)))
                        go_ret2
                        exact ⟨by first | rfl | (simp [errW_none, errW_some] <;> rfl) | (simp [*, errW_none, errW_some] <;> rfl), by repeat (first | (with_reducible first | exact HB.out | apply below_alloc | apply pw_below_drewN | apply below_drew1 | refine below_set ?_ GE105.out) | exact HB.out)⟩
                      · rw [if_neg c61] at H
                        exact absurd H (by simp)
                    · rw [if_neg c60] at H
                      have c60b0 : (t126 == 0) = false := beq_eq_false_iff_ne.mpr c60
                      have c60b1 : (t126 != 0) = true := bne_iff_ne.mpr c60
                      simp only [Option.some.injEq, Prod.mk.injEq] at H
                      obtain ⟨rfl, rfl⟩ := H
                      try go_wp2_with (first | ((with_reducible refine gate_callee (f := 22) rfl ?_); refine goesL_ (some 89) rfl rfl Tryd.func22 (by kernel_rfl) rfl #[.int .u8 t106] rfl (by (try simp only [List.map_toArray, List.map_cons, List.map_nil]); first | done | rfl | (simp only [List.length_drop, List.length_take]; rfl)) ?_; (with_reducible refine (ins_shape_width.calls kj51 t106 t123 _ A56.out).mono ?_); rintro e w' ⟨rfl, ⟨nd, rfl⟩⟩; refine ⟨_, rfl, ?_⟩))
                      (try (rw [drewN_self wc]; generalize hq_ : World.drewN wc _ = wc; have n0_ : Aside0 (Kd.R (Kd.int .u8) 5 wc w.heap.size (fun _ => True) u6 x6_39) := ⟨by rw [← hq_]; exact (by (with_reducible repeat (first | apply Kd.R_alloc | apply Kd.R_drewN | apply Kd.R_drew)); exact HO_6.out)⟩; have n1_ : Aside0 (wc.heap[gb105]? = some (.cells #[.int .i64 a0_0, .int .i64 a0_1, .int .i64 a0_2, .int .i64 a0_3] 23 (0, 0))) := ⟨by rw [← hq_]; exact (by (with_reducible repeat (first | refine blk_drewN ?_ _ | refine blk_drew ?_ | refine blk_alloc ?_ _)); exact BK105.out)⟩; have n2_ : Aside0 (Below w.heap.size w wc) := ⟨by rw [← hq_]; exact (by repeat (first | (with_reducible first | exact HB.out | apply below_alloc | apply pw_below_drewN | apply below_drew1 | refine below_set ?_ GE105.out) | exact HB.out))⟩; clear HO_6 BK105 HB hq_; have HO_6 := n0_; have BK105 := n1_; have HB := n2_; clear n0_ n1_ n2_; have hcq105_0 : wc.cell? ⟨gb105, 0, none⟩ = some (.int .i64 a0_0) := (blk_cell BK105.out 0).trans rfl; have hfq105_0 := blk_frozen BK105.out 0; have hcq105_1 : wc.cell? ⟨gb105, 1, none⟩ = some (.int .i64 a0_1) := (blk_cell BK105.out 1).trans rfl; have hfq105_1 := blk_frozen BK105.out 1; have hcq105_2 : wc.cell? ⟨gb105, 2, none⟩ = some (.int .i64 a0_2) := (blk_cell BK105.out 2).trans rfl; have hfq105_2 := blk_frozen BK105.out 2; have hcq105_3 : wc.cell? ⟨gb105, 3, none⟩ = some (.int .i64 a0_3) := (blk_cell BK105.out 3).trans rfl; have hfq105_3 := blk_frozen BK105.out 3))
                      have o_HO_6 := HO_6
                      have n0_ := Aside0.mk (Kd.R_drew HO_6.out)
                      have o_BK105 := BK105
                      have n1_ := Aside0.mk (blk_drew BK105.out)
                      have o_HB := HB
                      have n2_ := Aside0.mk (below_drew1 HB.out)
                      clear HO_6
                      clear BK105
                      clear HB
                      have HO_6 := n0_
                      have BK105 := n1_
                      have HB := n2_
                      clear n0_ n1_ n2_
                      refine start_ (n := 10) (S := fun w' => w'.cell? ⟨gb105, 0, none⟩ = some (.int .i64 a0_0) ∧ w'.cell? ⟨gb105, 1, none⟩ = some (.int .i64 a0_1) ∧ w'.cell? ⟨gb105, 2, none⟩ = some (.int .i64 a0_2) ∧ w'.cell? ⟨gb105, 3, none⟩ = some (.int .i64 a0_3)) (ds := []) #[false, false, false, false, false, false, false, false, false, false] (by kernel_rfl) rfl rfl ⟨(blk_cell BK105.out 0).trans rfl, (blk_cell BK105.out 1).trans rfl, (blk_cell BK105.out 2).trans rfl, (blk_cell BK105.out 3).trans rfl⟩ (fun hHeld => ?_); refine with_tabW ins_Encode.tab14 ins_Encode.bits14 (fun HT_ HW_ => ?_)
                      first | (generalize hwd_ : wc.drewN _ = w66 at hHeld ⊢; obtain ⟨nN_, hn_⟩ : ∃ n_, wc.drewN n_ = w66 := ⟨_, hwd_⟩; clear HO_6 BK105 HB; have HO_6 := Aside0.mk (Kd.R_drewN o_HO_6.out nN_); rw [hn_] at HO_6; have BK105 := Aside0.mk (blk_drewN o_BK105.out nN_); rw [hn_] at BK105; have HB := Aside0.mk (pw_below_drewN o_HB.out nN_); rw [hn_] at HB; clear hn_ hwd_) | generalize wc.drew = w66 at HO_6 BK105 HB hHeld ⊢
                      refine pure_ (i := 0) (N := some 92) (v := ?_) (a' := ?_) #[true, false, false, false, false, false, false, false, false, false] rfl rfl (any_of HT_.out (by kernel_rfl)) (fun _ _ _ h => h) (Or.inl ⟨by rfl, ?_⟩) ?_ ?_
                      rotate_left
                      · intro w'
                        go_simp
                        with_reducible rfl
                      rotate_left
                      · simp only [Act.put, List.setIfInBounds_toArray, List.set_cons_zero, List.set_cons_succ, i64_w, i32_w]
                        rfl
                      refine pure_ (i := 2) (N := some 94) (v := ?_) (a' := ?_) #[true, false, true, false, false, false, false, false, false, false] rfl rfl (any_of HT_.out (by kernel_rfl)) (fun _ _ _ h => h) (Or.inl ⟨by rfl, ?_⟩) ?_ ?_
                      rotate_left
                      · intro w'
                        go_simp
                        with_reducible rfl
                      rotate_left
                      · simp only [Act.put, List.setIfInBounds_toArray, List.set_cons_zero, List.set_cons_succ, i64_w, i32_w]
                        rfl
                      refine take_ (i := 1) (N := some 93) (v := ?_) (a' := ?_) #[true, true, true, false, false, false, false, false, false, false] rfl rfl (take_ofW HT_.out HW_.out (by kernel_rfl)) (fun _ _ _ h => h) (Or.inl ⟨by rfl, ?_⟩) hHeld ?_ ?_
                      rotate_left
                      · rintro w' ⟨s0, s1, s2, s3⟩
                        go_simp
                        with_reducible rfl
                      rotate_left
                      · simp only [Act.put, List.setIfInBounds_toArray, List.set_cons_zero, List.set_cons_succ, i64_w, i32_w]
                        rfl
                      refine one_ (i := 3) (N := some 95) #[true, true, true, true, false, false, false, false, false, false] rfl rfl (one_of HT_.out (by kernel_rfl)) (by decide) (fun K hK => ?_)
                      refine goes_ Tryd.func22 (by kernel_rfl) rfl #[.int .u8 t106] (by rfl) rfl rfl (by (try simp only [List.map_toArray, List.map_cons, List.map_nil]); first | done | rfl | (simp only [List.length_drop, List.length_take]; rfl)) ?_
                      with_reducible refine (ins_shape_width.calls kj51 t106 t124 _ A58.out).mono ?_
                      rintro e w' ⟨rfl, ⟨nd, rfl⟩⟩
                      refine ⟨_, rfl, ?_⟩
                      refine hK.out _ _ ⟨(blk_cell BK105.out 0).trans rfl, (blk_cell BK105.out 1).trans rfl, (blk_cell BK105.out 2).trans rfl, (blk_cell BK105.out 3).trans rfl⟩ (fun hHeld => ?_)
                      clear hK K
                      refine norm_ (a' := ?_) ?_ ?_
                      rotate_left
                      · show Act.put _ (some 95) _ = _
                        simp only [Act.put, List.setIfInBounds_toArray, List.set_cons_zero, List.set_cons_succ, i64_w, i32_w]
                        rfl
                      refine one_ (i := 4) (N := some 96) #[true, true, true, true, true, false, false, false, false, false] rfl rfl (one_of HT_.out (by kernel_rfl)) (by decide) (fun K hK => ?_)
                      refine goes_ Tryd.func23 (by kernel_rfl) rfl #[.int .i64 a0_3, .int .i64 t124] (by rfl) rfl rfl (by (try simp only [List.map_toArray, List.map_cons, List.map_nil]); first | done | rfl | (simp only [List.length_drop, List.length_take]; rfl)) ?_
                      with_reducible refine (word_Bytes.calls kj51 a0_3 t124 t125 t126 _ A59.out).mono ?_
                      rintro e w67 ⟨rfl, hb⟩
                      refine ⟨_, rfl, ?_⟩
                      have n0_ := Aside0.mk (Kd.R_below (by (with_reducible repeat (first | apply Kd.R_alloc | apply Kd.R_drewN | apply Kd.R_drew)); exact HO_6.out) hb)
                      have n1_ := Aside0.mk (blk_below (g := gb105) (o := .cells #[.int .i64 a0_0, .int .i64 a0_1, .int .i64 a0_2, .int .i64 a0_3] 23 (0, 0)) (by (with_reducible repeat (first | refine blk_drewN ?_ _ | refine blk_drew ?_ | refine blk_alloc ?_ _)); exact BK105.out) hb)
                      have n2_ := Aside0.mk (below_step (by repeat (first | (with_reducible first | exact HB.out | apply below_alloc | apply pw_below_drewN | apply below_drew1 | refine below_set ?_ GE105.out) | exact HB.out)) hb)
                      clear HO_6
                      clear BK105
                      clear HB
                      have HO_6 := n0_
                      have BK105 := n1_
                      have HB := n2_
                      clear n0_ n1_ n2_
                      (try clear hb)
                      (try clear hb2)
                      (try clear hk)
                      (try clear hi)
                      refine hK.out _ _ ⟨(blk_cell BK105.out 0).trans rfl, (blk_cell BK105.out 1).trans rfl, (blk_cell BK105.out 2).trans rfl, (blk_cell BK105.out 3).trans rfl⟩ (fun hHeld => ?_)
                      clear hK K
                      refine norm_ (a' := ?_) ?_ ?_
                      rotate_left
                      · show Act.put _ (some 96) _ = _
                        simp only [Act.put, List.setIfInBounds_toArray, List.set_cons_zero, List.set_cons_succ, i64_w, i32_w]
                        rfl
                      refine pure_ (i := 5) (N := some 91) (v := ?_) (a' := ?_) #[true, true, true, true, true, true, false, false, false, false] rfl rfl (any_of HT_.out (by kernel_rfl)) (fun _ _ _ h => h) (Or.inl ⟨by rfl, ?_⟩) ?_ ?_
                      rotate_left
                      · intro w'
                        go_simp
                        with_reducible rfl
                      rotate_left
                      · simp only [Act.put, List.setIfInBounds_toArray, List.set_cons_zero, List.set_cons_succ, i64_w, i32_w]
                        rfl
                      refine pure_ (i := 6) (N := some 97) (v := ?_) (a' := ?_) #[true, true, true, true, true, true, true, false, false, false] rfl rfl (any_of HT_.out (by kernel_rfl)) (fun _ _ _ h => h) (Or.inl ⟨by rfl, ?_⟩) ?_ ?_
                      rotate_left
                      · intro w'
                        go_simp
                        with_reducible rfl
                      rotate_left
                      · simp only [Act.put, List.setIfInBounds_toArray, List.set_cons_zero, List.set_cons_succ, i64_w, i32_w]
                        rfl
                      refine pure_ (i := 7) (N := some 98) (v := ?_) (a' := ?_) #[true, true, true, true, true, true, true, true, false, false] rfl rfl (any_of HT_.out (by kernel_rfl)) (fun _ _ _ h => h) (Or.inl ⟨by rfl, ?_⟩) ?_ ?_
                      rotate_left
                      · intro w'
                        go_simp
                        with_reducible rfl
                      rotate_left
                      · simp only [Act.put, List.setIfInBounds_toArray, List.set_cons_zero, List.set_cons_succ, i64_w, i32_w]
                        rfl
                      refine pure_ (i := 8) (N := some 7) (v := ?_) (a' := ?_) #[true, true, true, true, true, true, true, true, true, false] rfl rfl (any_of HT_.out (by kernel_rfl)) (fun _ _ _ h => h) (Or.inl ⟨by rfl, ?_⟩) ?_ ?_
                      rotate_left
                      · intro w'
                        go_simp
                        with_reducible rfl
                      rotate_left
                      · simp only [Act.put, List.setIfInBounds_toArray, List.set_cons_zero, List.set_cons_succ, i64_w, i32_w]
                        rfl
                      refine pure_ (i := 9) (N := some 8) (v := ?_) (a' := ?_) #[true, true, true, true, true, true, true, true, true, true] rfl rfl (any_of HT_.out (by kernel_rfl)) (fun _ _ _ h => h) (Or.inl ⟨by rfl, ?_⟩) ?_ ?_
                      rotate_left
                      · intro w'
                        go_simp
                        with_reducible rfl
                      rotate_left
                      · simp only [Act.put, List.setIfInBounds_toArray, List.set_cons_zero, List.set_cons_succ, i64_w, i32_w]
                        rfl
                      refine done_ (done_of HT_.out (by kernel_rfl)) ?_
                      try go_wp2
                      go_ret2
                      exact ⟨by first | rfl | (simp [errW_none, errW_some] <;> rfl) | (simp [*, errW_none, errW_some] <;> rfl), by repeat (first | (with_reducible first | exact HB.out | apply below_alloc | apply pw_below_drewN | apply below_drew1 | refine below_set ?_ GE105.out) | exact HB.out)⟩
                  · rw [if_neg c57] at H
                    have c57b0 : decide (0 < t123) = false := decide_eq_false c57
                    clear c57
                    simp only [Option.some.injEq, Prod.mk.injEq] at H
                    obtain ⟨rfl, rfl⟩ := H
                    go_wp2_with (first | ((with_reducible refine gate_callee (f := 22) rfl ?_); refine goesL_ (some 89) rfl rfl Tryd.func22 (by kernel_rfl) rfl #[.int .u8 t106] rfl (by (try simp only [List.map_toArray, List.map_cons, List.map_nil]); first | done | rfl | (simp only [List.length_drop, List.length_take]; rfl)) ?_; (with_reducible refine (ins_shape_width.calls kj51 t106 t123 _ A56.out).mono ?_); rintro e w' ⟨rfl, ⟨nd, rfl⟩⟩; refine ⟨_, rfl, ?_⟩; have hcv68 := own_string (P := Tryd.prog) Tryd.underlying44 Tryd.underlying5 Tryd.underlying9 (Kd.own_of_R HO_6.out); have hcv68d := own_string (P := Tryd.prog) Tryd.underlying44 Tryd.underlying5 Tryd.underlying9 (Kd.own_of_R (Kd.R_drewN HO_6.out nd))))
                    go_ret2
                    exact ⟨by first | rfl | (simp [errW_none, errW_some] <;> rfl) | (simp [*, errW_none, errW_some] <;> rfl), by repeat (first | (with_reducible first | exact HB.out | apply below_alloc | apply pw_below_drewN | apply below_drew1 | refine below_set ?_ GE105.out) | exact HB.out)⟩

end Go.Proofs.YthmheblilgegcaaDoor.M
