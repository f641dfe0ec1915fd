/-
  Texts of the proofs of LinkKeeps, cut to what the proofs reach and packed by a program of this session (wip/packs.py). Each part begins with what it says; conditions: those told there.
-/
import Derived.Test.YteaealmnmmcbpaaPHA8
import Derived.Test.YteaealmnmmcbpaaPHB2n1
-- Written by a program of this session (wip/ownprint.py) over the translation. Lean checks it.
namespace Go.Proofs.Yteaealmnmmcbpaa.M
open Go.RowKit Go.Proofs.YteaealmnmmcbpaaW.PrintWords Go.Proofs.YteaealmnmmcbpaaW.PrintLast
set_option linter.unusedVariables false
set_option linter.unusedSimpArgs false

/-! ### cotterlaw07_LinkKeeps: function 5 -/
mutual
def cotterlaw07_LinkKeeps.l0 : Nat → List (S40) → Int → Int → Int → ByteArray → List Int → List (S36) → Option (Bool)
  | 0, _, _, _, _, _, _, _ => none
  | k + 1, x0, x5, x6, x7, x205000, x205001, x205002 => if x7 < (x0.length : Int) then (if 0 ≤ x7 then (if (wrap64 (x5 + (((rd_T40 x0 x7).f0).size : Int))) > (x205000.size : Int) then (cotterlaw07_LinkKeeps.j1 k x0 x5 x6 x7 true x205000 x205001 x205002 ((rd_T40 x0 x7).f0) ((rd_T40 x0 x7).f1) ((rd_T40 x0 x7).f2) ((rd_T40 x0 x7).f3)) else (if (wrap64 (x6 + (((rd_T40 x0 x7).f1).length : Int))) > (x205001.length : Int) then (cotterlaw07_LinkKeeps.j1 k x0 x5 x6 x7 true x205000 x205001 x205002 ((rd_T40 x0 x7).f0) ((rd_T40 x0 x7).f1) ((rd_T40 x0 x7).f2) ((rd_T40 x0 x7).f3)) else (if 0 ≤ x6 then (if x6 ≤ (wrap64 (x6 + (((rd_T40 x0 x7).f1).length : Int))) then (if (wrap64 (x6 + (((rd_T40 x0 x7).f1).length : Int))) ≤ (x205001.length : Int) then ((cotterref06_SameData.f k ((x205001.take ((wrap64 (x6 + (((rd_T40 x0 x7).f1).length : Int))) : Int).toNat).drop (x6 : Int).toNat) ((rd_T40 x0 x7).f1)).bind fun t214 => (cotterlaw07_LinkKeeps.j1 k x0 x5 x6 x7 (!t214) x205000 x205001 x205002 ((rd_T40 x0 x7).f0) ((rd_T40 x0 x7).f1) ((rd_T40 x0 x7).f2) ((rd_T40 x0 x7).f3))) else (none)) else (none)) else (none)))) else (none)) else (if x5 = (x205000.size : Int) then (if x6 = (x205001.length : Int) then ((cotterlaw07_live.f).bind fun t207 => (some t207)) else (some false)) else (some false))
def cotterlaw07_LinkKeeps.j1 : Nat → List (S40) → Int → Int → Int → Bool → ByteArray → List Int → List (S36) → ByteArray → List Int → List (S36) → List (S45) → Option (Bool)
  | 0, _, _, _, _, _, _, _, _, _, _, _, _ => none
  | k + 1, x0, x5, x6, x7, x74, x205000, x205001, x205002, x210000, x210001, x210002, x210003 => if x74 = true then (some false) else (if 0 ≤ (x210000.size : Int) then (if ((x210000.size : Int) : Int).toNat ≤ 281474976710656 then (cotterlaw07_LinkKeeps.l1 k x0 x5 x6 x7 (List.replicate ((x210000.size : Int) : Int).toNat false) 0 x205000 x205001 x205002 x210000 x210001 x210002 x210003) else (none)) else (none))
def cotterlaw07_LinkKeeps.l1 : Nat → List (S40) → Int → Int → Int → List Bool → Int → ByteArray → List Int → List (S36) → ByteArray → List Int → List (S36) → List (S45) → Option (Bool)
  | 0, _, _, _, _, _, _, _, _, _, _, _, _, _ => none
  | k + 1, x0, x5, x6, x7, x9, x10, x205000, x205001, x205002, x210000, x210001, x210002, x210003 => if x10 < (x210003.length : Int) then (cotterlaw07_LinkKeeps.l2 k x0 x5 x6 x7 x9 x10 0 x205000 x205001 x205002 x210000 x210001 x210002 x210003) else (cotterlaw07_LinkKeeps.l3 k x0 x5 x6 x7 x9 0 x205000 x205001 x205002 x210000 x210001 x210002 x210003)
def cotterlaw07_LinkKeeps.l2 : Nat → List (S40) → Int → Int → Int → List Bool → Int → Int → ByteArray → List Int → List (S36) → ByteArray → List Int → List (S36) → List (S45) → Option (Bool)
  | 0, _, _, _, _, _, _, _, _, _, _, _, _, _, _ => none
  | k + 1, x0, x5, x6, x7, x9, x10, x11, x205000, x205001, x205002, x210000, x210001, x210002, x210003 => if x11 < 4 then (if 0 ≤ x10 then (if x10 < (x210003.length : Int) then (if 0 ≤ (wrap64 (((rd_T45 x210003 x10).f0) + x11)) then (if (wrap64 (((rd_T45 x210003 x10).f0) + x11)) < (x9.length : Int) then (cotterlaw07_LinkKeeps.l2 k x0 x5 x6 x7 (x9.set ((wrap64 (((rd_T45 x210003 x10).f0) + x11)) : Int).toNat true) x10 (wrap64 (x11 + 1)) x205000 x205001 x205002 x210000 x210001 x210002 x210003) else (none)) else (none)) else (none)) else (none)) else (cotterlaw07_LinkKeeps.l1 k x0 x5 x6 x7 x9 (wrap64 (x10 + 1)) x205000 x205001 x205002 x210000 x210001 x210002 x210003)
def cotterlaw07_LinkKeeps.l3 : Nat → List (S40) → Int → Int → Int → List Bool → Int → ByteArray → List Int → List (S36) → ByteArray → List Int → List (S36) → List (S45) → Option (Bool)
  | 0, _, _, _, _, _, _, _, _, _, _, _, _, _ => none
  | k + 1, x0, x5, x6, x7, x9, x12, x205000, x205001, x205002, x210000, x210001, x210002, x210003 => if x12 < (x210000.size : Int) then (if 0 ≤ x12 then (if x12 < (x9.length : Int) then (if rdOf false x9 x12 = true then (cotterlaw07_LinkKeeps.l3 k x0 x5 x6 x7 x9 (wrap64 (x12 + 1)) x205000 x205001 x205002 x210000 x210001 x210002 x210003) else (if 0 ≤ (wrap64 (x5 + x12)) then (if (wrap64 (x5 + x12)) < (x205000.size : Int) then (if (bt x205000 (wrap64 (x5 + x12))) = (bt x210000 x12) then (cotterlaw07_LinkKeeps.l3 k x0 x5 x6 x7 x9 (wrap64 (x12 + 1)) x205000 x205001 x205002 x210000 x210001 x210002 x210003) else (some false)) else (none)) else (none))) else (none)) else (none)) else (cotterlaw07_LinkKeeps.l0 k x0 (wrap64 (x5 + (x210000.size : Int))) (wrap64 (x6 + (x210001.length : Int))) (wrap64 (x7 + 1)) x205000 x205001 x205002)
end
def cotterlaw07_LinkKeeps.f (k : Nat) (l0 : List (S40)) : Option (Bool) := (cotterlaw07_small.f k l0).bind fun t194 => (if t194 = true then ((link_Link.f l0).bind fun bt196 => (if bt196.2.2.2 = 0 then (cotterlaw07_LinkKeeps.l0 k l0 0 0 0 bt196.1 bt196.2.1 bt196.2.2.1) else ((cotterref07_Same.f k bt196.1 bt196.2.1 bt196.2.2.1 (⟨#[]⟩ : ByteArray) ([] : List Int) ([] : List (S36))).bind fun t205 => (if t205 = true then ((cotterlaw07_live.f).bind fun t206 => (some t206)) else (some false))))) else ((cotterlaw07_live.f).bind fun t195 => (some t195)))
def cotterlaw07_LinkKeeps.T12 : Bool × List (List Nat × List Nat) := (true, [([], []), ([], []), ([1], [1]), ([2], [2]), ([0, 3], [0, 3]), ([], []), ([5], [5]), ([6], [6]), ([4, 7], [4, 7]), ([8], [8]), ([9], [9]), ([9], [9]), ([11, 9], [9, 11]), ([12, 9], [9, 12]), ([10, 13, 9], [9, 10, 13]), ([9], [9]), ([15, 9], [9, 15]), ([16, 9], [9, 16]), ([14, 17, 9], [9, 14, 17]), ([9, 18], [9, 18]), ([19, 9], [19]), ([20], [20]), ([21, 20], [20, 21]), ([20], [20]), ([20], [20]), ([20], [20]), ([25, 20], [20, 25]), ([26, 20], [20, 26]), ([24, 27, 20], [20, 24, 27]), ([22, 23, 28, 20], [20, 22, 23, 28]), ([20], [20]), ([30, 20], [20, 30]), ([29, 31, 20, 20], [20, 29, 31]), ([32, 20], [20, 32]), ([20, 33], [20, 33])])
def cotterlaw07_LinkKeeps.B12 : List Nat := [0, 0, 2, 6, 15, 0, 32, 96, 255, 511, 1023, 1023, 3071, 7167, 16383, 1023, 33791, 99327, 262143, 524287, 1048575, 2097151, 4194303, 2097151, 2097151, 2097151, 35651583, 102760447, 253755391, 536870911, 2097151, 1075838975, 4294967295, 8589934591, 17179869183]
theorem cotterlaw07_LinkKeeps.tab12 : rtab .any (opsOf Try.f5 12) = cotterlaw07_LinkKeeps.T12 := by kernel_rfl
theorem cotterlaw07_LinkKeeps.bits12 : waitsOk cotterlaw07_LinkKeeps.T12.2 cotterlaw07_LinkKeeps.B12 = true := by kernel_rfl
def cotterlaw07_LinkKeeps.T25 : Bool × List (List Nat × List Nat) := (true, [([], []), ([], []), ([0, 1], [0, 1]), ([2], [2]), ([3], [3]), ([4], [4]), ([5], [5]), ([6, 5], [5, 6]), ([5], [5]), ([5], [5]), ([8, 9, 5], [5, 8, 9]), ([7, 10, 5], [5, 7, 10]), ([5], [5]), ([12, 5], [5, 12]), ([5], [5]), ([13, 14, 5], [5, 13, 14]), ([11, 15, 5], [5, 11, 15]), ([5, 16], [5, 16])])
def cotterlaw07_LinkKeeps.B25 : List Nat := [0, 0, 3, 7, 15, 31, 63, 127, 63, 63, 831, 2047, 63, 4159, 63, 28735, 65535, 131071]
theorem cotterlaw07_LinkKeeps.tab25 : rtab .any (opsOf Try.f5 25) = cotterlaw07_LinkKeeps.T25 := by kernel_rfl
theorem cotterlaw07_LinkKeeps.bits25 : waitsOk cotterlaw07_LinkKeeps.T25.2 cotterlaw07_LinkKeeps.B25 = true := by kernel_rfl
set_option maxHeartbeats 8000000 in
set_option maxRecDepth 100000 in
theorem cotterlaw07_LinkKeeps.calls (k : Nat) (A0 : Option Addr) (c0 : Nat) (l0 : List (S40)) (r : Bool) (w : World) (hr0 : Kd.C k40 w A0 l0.length l0) (hc0 : l0.length ≤ c0) (h : cotterlaw07_LinkKeeps.f k l0 = some r) :
    Calls Try.prog 5 #[.slice A0 l0.length c0] w fun e w' => e = .returned (.bool r) ∧ Below w.heap.size w w' := by
  have hu29 := Try.underlying29
  have hu40 := Try.underlying40
  have HR0 := Aside0.mk hr0
  have HC0 := Aside0.mk hc0
  clear hr0 hc0
  have HB := Aside0.mk (Below.refl w.heap.size w)
  have H : ((cotterlaw07_small.f k l0).bind fun t194 => (if t194 = true then ((link_Link.f l0).bind fun bt196 => (if bt196.2.2.2 = 0 then (cotterlaw07_LinkKeeps.l0 k l0 0 0 0 bt196.1 bt196.2.1 bt196.2.2.1) else ((cotterref07_Same.f k bt196.1 bt196.2.1 bt196.2.2.1 (⟨#[]⟩ : ByteArray) ([] : List Int) ([] : List (S36))).bind fun t205 => (if t205 = true then ((cotterlaw07_live.f).bind fun t206 => (some t206)) else (some false))))) else ((cotterlaw07_live.f).bind fun t195 => (some t195)))) = some r := h
  clear h
  replace H := Option.bind_eq_some_iff.mp H
  obtain ⟨t194, A20, H⟩ := H
  replace H : (if t194 = true then ((link_Link.f l0).bind fun bt196 => (if bt196.2.2.2 = 0 then (cotterlaw07_LinkKeeps.l0 k l0 0 0 0 bt196.1 bt196.2.1 bt196.2.2.1) else ((cotterref07_Same.f k bt196.1 bt196.2.1 bt196.2.2.1 (⟨#[]⟩ : ByteArray) ([] : List Int) ([] : List (S36))).bind fun t205 => (if t205 = true then ((cotterlaw07_live.f).bind fun t206 => (some t206)) else (some false))))) else ((cotterlaw07_live.f).bind fun t195 => (some t195))) = some r := H
  have A2 := Aside0.mk A20
  clear A20
  by_cases c3 : t194 = true
  · subst c3
    have H1 : ((link_Link.f l0).bind fun bt196 => (if bt196.2.2.2 = 0 then (cotterlaw07_LinkKeeps.l0 k l0 0 0 0 bt196.1 bt196.2.1 bt196.2.2.1) else ((cotterref07_Same.f k bt196.1 bt196.2.1 bt196.2.2.1 (⟨#[]⟩ : ByteArray) ([] : List Int) ([] : List (S36))).bind fun t205 => (if t205 = true then ((cotterlaw07_live.f).bind fun t206 => (some t206)) else (some false))))) = some r := by rw [if_pos rfl] at H; exact H
    clear H
    have H := H1
    clear H1
    replace H := Option.bind_eq_some_iff.mp H
    obtain ⟨⟨t196, t197, t200, t203⟩, A40, H⟩ := H
    replace H : (if t203 = 0 then (cotterlaw07_LinkKeeps.l0 k l0 0 0 0 t196 t197 t200) else ((cotterref07_Same.f k t196 t197 t200 (⟨#[]⟩ : ByteArray) ([] : List Int) ([] : List (S36))).bind fun t205 => (if t205 = true then ((cotterlaw07_live.f).bind fun t206 => (some t206)) else (some false)))) = some r := H
    have A4 := Aside0.mk A40
    clear A40
    by_cases c5 : t203 = 0
    · rw [if_pos c5] at H
      have c5b0 : (t203 == 0) = true := beq_iff_eq.mpr c5
      have c5b1 : (t203 != 0) = false := bne_eq_false_iff_eq.mpr c5
      clear c5
      have H' := Aside0.mk H
      clear H
      go_enter Try.func5, Try.ntmps5
      go_wp2_with (first | ((with_reducible refine gate_callee (f := 9) rfl ?_); refine goesL_ (some 14) rfl rfl Try.func9 (by kernel_rfl) rfl #[.slice A0 l0.length c0] rfl (by (try simp only [List.map_toArray, List.map_cons, List.map_nil]); first | done | rfl | (simp only [List.length_drop, List.length_take]; rfl)) ?_; (with_reducible refine (cotterlaw07_small.calls k _ _ l0 true _ ?side1 ?side2 A2.out).mono ?_); (case side1 => repeat (first | exact HR0.out | (with_reducible refine Kd.C_alloc ?_ _) | (with_reducible refine Kd.C_drewN ?_ _) | (with_reducible refine Kd.C_drew ?_))); (case side2 => exact HC0.out); rintro e w' ⟨rfl, ⟨nd, rfl⟩⟩; refine ⟨_, rfl, ?_⟩) | ((with_reducible refine gate_callee (f := 12) rfl ?_); refine goesL_ (some 19) rfl rfl Try.func12 (by kernel_rfl) rfl #[.slice A0 l0.length c0] rfl (by (try simp only [List.map_toArray, List.map_cons, List.map_nil]); first | done | rfl | (simp only [List.length_drop, List.length_take]; rfl)) ?_; (with_reducible refine (link_Link.calls _ _ l0 t196 t197 t200 t203 _ ?side1 ?side2 A4.out).mono ?_); (case side1 => repeat (first | exact HR0.out | (with_reducible refine Kd.C_alloc ?_ _) | (with_reducible refine Kd.C_drewN ?_ _) | (with_reducible refine Kd.C_drew ?_))); (case side2 => exact HC0.out); rintro e w6 ⟨v198, v201, rfl, ho0, ho1, hb⟩; refine ⟨_, rfl, ?_⟩; have n0_ := Aside0.mk (Kd.R_lower ho0 (below_size (by repeat (first | (with_reducible first | exact HB.out | apply below_alloc | apply pw_below_drewN | apply below_drew1) | exact HB.out)))); have n1_ := Aside0.mk (Kd.R_lower ho1 (below_size (by repeat (first | (with_reducible first | exact HB.out | apply below_alloc | apply pw_below_drewN | apply below_drew1) | exact HB.out)))); have n2_ := Aside0.mk (below_step (by repeat (first | (with_reducible first | exact HB.out | apply below_alloc | apply pw_below_drewN | apply below_drew1) | exact HB.out)) hb); clear HB; have HO199 := n0_; have HO202 := n1_; have HB := n2_; clear n0_ n1_ n2_; (try clear hb); (try clear hb2); (try clear hk); (try clear hi); (try clear ho0); (try clear ho1)) | ((with_reducible refine gate_dst (N := 3) rfl ?_); (try (refine gate_guard (by rfl) ?_; dsimp only)); refine box_event ?hg (N := 3) ?hd (cs := #[.string (⟨#[]⟩ : ByteArray), .slice none 0 0, .slice none 0 0]) (t := 29) ?hr ?_; (case hd => rfl); (case hg => rfl); (case hr => first | (go_simp; done) | (go_simp; rfl)); intro gb204 hg w7 hbox hb; have n0_ := Aside0.mk (Kd.R_below (by (with_reducible repeat (first | apply Kd.R_alloc | apply Kd.R_drewN | apply Kd.R_drew)); exact HO199.out) hb); have n1_ := Aside0.mk (Kd.R_below (by (with_reducible repeat (first | apply Kd.R_alloc | apply Kd.R_drewN | apply Kd.R_drew)); exact HO202.out) hb); have n2_ := Aside0.mk (below_step (by repeat (first | (with_reducible first | exact HB.out | apply below_alloc | apply pw_below_drewN | apply below_drew1) | exact HB.out)) hb); have n3_ := Aside0.mk (hbox); have n4_ := Aside0.mk ((by rw [hg]; exact (below_size (by repeat (first | (with_reducible first | exact HB.out | apply below_alloc | apply pw_below_drewN | apply below_drew1) | exact HB.out))) : w.heap.size ≤ gb204)); have n5_ := Aside0.mk ((by rw [hg]; exact (below_size (by repeat (first | (with_reducible first | exact HB.out | apply below_alloc | apply pw_below_drewN | apply below_drew1) | exact HB.out))) : w.heap.size ≤ gb204)); clear HO199; clear HO202; clear HB; have HO199 := n0_; have HO202 := n1_; have HB := n2_; have BK204 := n3_; have GW204 := n4_; have GE204 := n5_; clear n0_ n1_ n2_ n3_ n4_ n5_; clear hb hbox hg; have hcz8_0 : w7.cell? ⟨gb204, 0, none⟩ = some (.string (⟨#[]⟩ : ByteArray)) := (blk_cell BK204.out 0).trans rfl; have hcz8_1 : w7.cell? ⟨gb204, 1, none⟩ = some (.slice none 0 0) := (blk_cell BK204.out 1).trans rfl; have hcz8_2 : w7.cell? ⟨gb204, 2, none⟩ = some (.slice none 0 0) := (blk_cell BK204.out 2).trans rfl; have hfz8_0 := blk_frozen BK204.out 0; have hfz8_1 := blk_frozen BK204.out 1; have hfz8_2 := blk_frozen BK204.out 2; obtain ⟨Ao9, co9, eo9⟩ := Kd.R_slice HO199.out; subst eo9; obtain ⟨Ao10, co10, eo10⟩ := Kd.R_slice HO202.out; subst eo10))
      go_loopg [5, 6, 7] k (fun kq v5 v6 v7 w' => ∃ (x5_1 : Int) (x6_1 : Int) (x7_1 : Int), v5 = .int .i64 x5_1 ∧ v6 = .int .i64 x6_1 ∧ v7 = .int .i64 x7_1 ∧ Aside0 (cotterlaw07_LinkKeeps.l0 kq l0 x5_1 x6_1 x7_1 t196 t197 t200 = some r) ∧ Aside0 (kq ≤ k) ∧ Aside0 (Kd.R (Kd.int .i64) 2 w' w.heap.size (fun _ => True) (.slice Ao9 t197.length co9) t197) ∧ Aside0 (Kd.R k36 36 w' w.heap.size (fun _ => True) (.slice Ao10 t200.length co10) t200) ∧ Aside0 (w'.heap[gb204]? = some (.cells #[.string t196, (.slice Ao9 t197.length co9), (.slice Ao10 t200.length co10)] 29 (0, 0))) ∧ Aside0 (Below w.heap.size w w'))
      case atStart => exact ⟨(0), (0), (0), (by first | rfl | (simp; done) | (simp [*]; done)), (by first | rfl | (simp; done) | (simp [*]; done)), (by first | rfl | (simp; done) | (simp [*]; done)), H', ⟨Nat.le_refl _⟩, ⟨by (with_reducible repeat (first | apply Kd.R_alloc | apply Kd.R_drewN | apply Kd.R_drew)); exact Kd.R_mono (Kd.R_far (p := ⟨gb204, 2, none⟩) (Kd.R_far (p := ⟨gb204, 1, none⟩) (Kd.R_far (p := ⟨gb204, 0, none⟩) (Kd.R_types HO199.out BK204.out (by decide)) (fun _ hk => hk.2) (.string t196)) (fun _ hk => hk.2) (.slice Ao9 t197.length co9)) (fun _ hk => hk.2) (.slice Ao10 t200.length co10)) (fun _ hk => trivial)⟩, ⟨by (with_reducible repeat (first | apply Kd.R_alloc | apply Kd.R_drewN | apply Kd.R_drew)); exact Kd.R_mono (Kd.R_far (p := ⟨gb204, 2, none⟩) (Kd.R_far (p := ⟨gb204, 1, none⟩) (Kd.R_far (p := ⟨gb204, 0, none⟩) (Kd.R_types HO202.out BK204.out (by decide)) (fun _ hk => hk.2) (.string t196)) (fun _ hk => hk.2) (.slice Ao9 t197.length co9)) (fun _ hk => hk.2) (.slice Ao10 t200.length co10)) (fun _ hk => trivial)⟩, ⟨by (with_reducible repeat (first | refine blk_drewN ?_ _ | refine blk_drew ?_ | refine blk_alloc ?_ _)); refine blk_put (cs := #[.string t196, .slice Ao9 t197.length co9, .slice none 0 0]) ?_ 2 _ rfl; (with_reducible repeat (first | refine blk_drewN ?_ _ | refine blk_drew ?_ | refine blk_alloc ?_ _)); refine blk_put (cs := #[.string t196, .slice none 0 0, .slice none 0 0]) ?_ 1 _ rfl; (with_reducible repeat (first | refine blk_drewN ?_ _ | refine blk_drew ?_ | refine blk_alloc ?_ _)); refine blk_put (cs := #[.string (⟨#[]⟩ : ByteArray), .slice none 0 0, .slice none 0 0]) ?_ 0 _ rfl; (with_reducible repeat (first | refine blk_drewN ?_ _ | refine blk_drew ?_ | refine blk_alloc ?_ _)); exact BK204.out⟩, ⟨by repeat (first | (with_reducible first | exact HB.out | apply below_alloc | apply pw_below_drewN | apply below_drew1 | refine below_set ?_ GE204.out) | exact HB.out)⟩⟩
      case round =>
        clear H'
        try clear c1
        try clear p2
        try clear c3
        try clear c5
        try clear c5b0
        try clear c5b1
        try clear c9
        try clear hcz8_0
        try clear hcz8_1
        try clear hcz8_2
        try clear hfz8_0
        try clear hfz8_1
        try clear hfz8_2
        obtain ⟨x5_1, x6_1, x7_1, rfl, rfl, rfl, HA, HK1, HO_205001, HO_205002, BK204, HB⟩ := hrel
        cases gk with
        | zero => exact absurd HA.out (by simp [cotterlaw07_LinkKeeps.l0])
        | succ k1 =>
          have H := HA.out
          clear HA
          simp only [cotterlaw07_LinkKeeps.l0] at H
          by_cases c11 : x7_1 < (l0.length : Int)
          · rw [if_pos c11] at H
            have c11b0 : decide (x7_1 < (l0.length : Int)) = true := decide_eq_true c11
            clear c11
            by_cases c12 : 0 ≤ x7_1
            · rw [if_pos c12] at H
              have c12b0 : decide (0 ≤ x7_1) = true := decide_eq_true c12
              clear c12
              have HC13 := Aside0.mk H
              clear H
              have p208 : 0 ≤ (x7_1 : Int) := of_decide_eq_true (by first | (with_reducible assumption) | assumption)
              have q208 : x7_1 < (l0.length : Int) := of_decide_eq_true (by first | (with_reducible assumption) | assumption)
              obtain ⟨ad208, A208_1, c208_1, A208_2, c208_2, A208_3, c208_3, e208, hx208_0, hx208_1, hx208_2, hx208_3, hl208_1, hi208_1, hl208_2, hi208_2, hl208_3, hi208_3⟩ := at_T40 HR0.out x7_1 p208 q208
              cases e208
              replace hx208_0 := (HB.out.cell (World.block_lt_of_cell? w _ hx208_0)).trans hx208_0
              replace hx208_1 := (HB.out.cell (World.block_lt_of_cell? w _ hx208_1)).trans hx208_1
              replace hx208_2 := (HB.out.cell (World.block_lt_of_cell? w _ hx208_2)).trans hx208_2
              replace hx208_3 := (HB.out.cell (World.block_lt_of_cell? w _ hx208_3)).trans hx208_3
              have HR208_1 := Aside0.mk hi208_1
              have HC208_1 := Aside0.mk hl208_1
              clear hi208_1 hl208_1
              have HR208_2 := Aside0.mk hi208_2
              have HC208_2 := Aside0.mk hl208_2
              clear hi208_2 hl208_2
              have HR208_3 := Aside0.mk hi208_3
              have HC208_3 := Aside0.mk hl208_3
              clear hi208_3 hl208_3
              replace p208 := eq_true p208
              replace q208 := eq_true q208
              go_upto_region 12 with (first | ((with_reducible refine gate_dst (N := 8) rfl ?_); (try (refine gate_guard (by rfl) ?_; dsimp only)); refine box_event ?hg (N := 8) ?hd (cs := #[.string (⟨#[]⟩ : ByteArray), .slice none 0 0, .slice none 0 0, .slice none 0 0]) (t := 40) ?hr ?_; (case hd => rfl); (case hg => rfl); (case hr => first | (go_simp; done) | (go_simp; rfl)); intro gb209 hg w14 hbox hb; have n0_ := Aside0.mk (Kd.R_below (by (with_reducible repeat (first | apply Kd.R_alloc | apply Kd.R_drewN | apply Kd.R_drew)); exact HO_205001.out) hb); have n1_ := Aside0.mk (Kd.R_below (by (with_reducible repeat (first | apply Kd.R_alloc | apply Kd.R_drewN | apply Kd.R_drew)); exact HO_205002.out) hb); have n2_ := Aside0.mk (blk_below (g := gb204) (o := .cells #[.string t196, .slice Ao9 t197.length co9, .slice Ao10 t200.length co10] 29 (0, 0)) (by (with_reducible repeat (first | refine blk_drewN ?_ _ | refine blk_drew ?_ | refine blk_alloc ?_ _)); exact BK204.out) hb); have n3_ := Aside0.mk (below_step (by repeat (first | (with_reducible first | exact HB.out | apply below_alloc | apply pw_below_drewN | apply below_drew1 | refine below_set ?_ GE204.out) | exact HB.out)) hb); have n4_ := Aside0.mk (hbox); have n5_ := Aside0.mk ((by rw [hg]; exact (below_size (by repeat (first | (with_reducible first | exact HB.out | apply below_alloc | apply pw_below_drewN | apply below_drew1 | refine below_set ?_ GE204.out) | exact HB.out))) : w.heap.size ≤ gb209)); have n6_ := Aside0.mk ((by rw [hg]; exact (below_size (by repeat (first | (with_reducible first | exact HB.out | apply below_alloc | apply pw_below_drewN | apply below_drew1 | refine below_set ?_ GE204.out) | exact HB.out))) : w.heap.size ≤ gb209)); have n7_ := Aside0.mk ((by rw [hg]; exact Nat.ne_of_lt (blk_lt (g := gb204) (o := .cells #[.string t196, .slice Ao9 t197.length co9, .slice Ao10 t200.length co10] 29 (0, 0)) (by (with_reducible repeat (first | refine blk_drewN ?_ _ | refine blk_drew ?_ | refine blk_alloc ?_ _)); exact BK204.out)) : gb204 ≠ gb209)); have n8_ := Aside0.mk ((by rw [hg]; exact Nat.ne_of_gt (blk_lt (g := gb204) (o := .cells #[.string t196, .slice Ao9 t197.length co9, .slice Ao10 t200.length co10] 29 (0, 0)) (by (with_reducible repeat (first | refine blk_drewN ?_ _ | refine blk_drew ?_ | refine blk_alloc ?_ _)); exact BK204.out)) : gb209 ≠ gb204)); clear HO_205001; clear HO_205002; clear BK204; clear HB; have HO_205001 := n0_; have HO_205002 := n1_; have BK204 := n2_; have HB := n3_; have BK209 := n4_; have GW209 := n5_; have GE209 := n6_; have NB204_209 := n7_; have NB209_204 := n8_; clear n0_ n1_ n2_ n3_ n4_ n5_ n6_ n7_ n8_; clear hb hbox hg; have hnb15 := NB209_204.out; have hnc15 := NB204_209.out; have hcz16_0 : w14.cell? ⟨gb209, 0, none⟩ = some (.string (⟨#[]⟩ : ByteArray)) := (blk_cell BK209.out 0).trans rfl; have hcz16_1 : w14.cell? ⟨gb209, 1, none⟩ = some (.slice none 0 0) := (blk_cell BK209.out 1).trans rfl; have hcz16_2 : w14.cell? ⟨gb209, 2, none⟩ = some (.slice none 0 0) := (blk_cell BK209.out 2).trans rfl; have hcz16_3 : w14.cell? ⟨gb209, 3, none⟩ = some (.slice none 0 0) := (blk_cell BK209.out 3).trans rfl; have hfz16_0 := blk_frozen BK209.out 0; have hfz16_1 := blk_frozen BK209.out 1; have hfz16_2 := blk_frozen BK209.out 2; have hfz16_3 := blk_frozen BK209.out 3))
              (try simp only [Act.put, List.setIfInBounds_toArray, List.set_cons_zero, List.set_cons_succ])
              go_cut [74] (fun v74 wc => ∃ (kq : Nat) (x74_12 : Bool), v74 = .bool x74_12 ∧ Aside0 (cotterlaw07_LinkKeeps.j1 kq l0 x5_1 x6_1 x7_1 x74_12 t196 t197 t200 ((rd_T40 l0 x7_1).f0) ((rd_T40 l0 x7_1).f1) ((rd_T40 l0 x7_1).f2) ((rd_T40 l0 x7_1).f3) = some r) ∧ Aside0 (kq ≤ k1) ∧ Aside0 (Kd.R (Kd.int .i64) 2 wc w.heap.size (fun _ => True) (.slice Ao9 t197.length co9) t197) ∧ Aside0 (Kd.R k36 36 wc w.heap.size (fun _ => True) (.slice Ao10 t200.length co10) t200) ∧ Aside0 (wc.heap[gb204]? = some (.cells #[.string t196, (.slice Ao9 t197.length co9), (.slice Ao10 t200.length co10)] 29 (0, 0))) ∧ Aside0 (wc.heap[gb209]? = some (.cells #[.string ((rd_T40 l0 x7_1).f0), (.slice A208_1 ((rd_T40 l0 x7_1).f1).length c208_1), (.slice A208_2 ((rd_T40 l0 x7_1).f2).length c208_2), (.slice A208_3 ((rd_T40 l0 x7_1).f3).length c208_3)] 40 (0, 0))) ∧ Aside0 (Below w.heap.size w wc))
              case first =>
                have H := HC13.out
                clear HC13
                by_cases c17 : (wrap64 (x5_1 + (((rd_T40 l0 x7_1).f0).size : Int))) > (t196.size : Int)
                · rw [if_pos c17] at H
                  have c17b0 : decide ((t196.size : Int) < (wrap64 (x5_1 + (((rd_T40 l0 x7_1).f0).size : Int)))) = true := decide_eq_true c17
                  clear c17
                  (first | rw [c17b0] | (simp only [i64_w, i32_w]; rw [c17b0]) | skip)
                  have H' := Aside0.mk H
                  clear H
                  try go_wp2
                  have n0_ : Aside0 (Kd.R (Kd.int .i64) 2 ((((w14.setCell ⟨gb209, 0, none⟩ (.string ((rd_T40 l0 x7_1).f0))).setCell ⟨gb209, 1, none⟩ (.slice A208_1 ((rd_T40 l0 x7_1).f1).length c208_1)).setCell ⟨gb209, 2, none⟩ (.slice A208_2 ((rd_T40 l0 x7_1).f2).length c208_2)).setCell ⟨gb209, 3, none⟩ (.slice A208_3 ((rd_T40 l0 x7_1).f3).length c208_3)) w.heap.size (fun _ => True) (.slice Ao9 t197.length co9) t197) := ⟨by (with_reducible repeat (first | apply Kd.R_alloc | apply Kd.R_drewN | apply Kd.R_drew)); exact Kd.R_mono (Kd.R_far (p := ⟨gb209, 3, none⟩) (Kd.R_far (p := ⟨gb209, 2, none⟩) (Kd.R_far (p := ⟨gb209, 1, none⟩) (Kd.R_far (p := ⟨gb209, 0, none⟩) (Kd.R_types HO_205001.out BK209.out (by decide)) (fun _ hk => hk.2) (.string ((rd_T40 l0 x7_1).f0))) (fun _ hk => hk.2) (.slice A208_1 ((rd_T40 l0 x7_1).f1).length c208_1)) (fun _ hk => hk.2) (.slice A208_2 ((rd_T40 l0 x7_1).f2).length c208_2)) (fun _ hk => hk.2) (.slice A208_3 ((rd_T40 l0 x7_1).f3).length c208_3)) (fun _ hk => trivial)⟩
                  have n1_ : Aside0 (Kd.R k36 36 ((((w14.setCell ⟨gb209, 0, none⟩ (.string ((rd_T40 l0 x7_1).f0))).setCell ⟨gb209, 1, none⟩ (.slice A208_1 ((rd_T40 l0 x7_1).f1).length c208_1)).setCell ⟨gb209, 2, none⟩ (.slice A208_2 ((rd_T40 l0 x7_1).f2).length c208_2)).setCell ⟨gb209, 3, none⟩ (.slice A208_3 ((rd_T40 l0 x7_1).f3).length c208_3)) w.heap.size (fun _ => True) (.slice Ao10 t200.length co10) t200) := ⟨by (with_reducible repeat (first | apply Kd.R_alloc | apply Kd.R_drewN | apply Kd.R_drew)); exact Kd.R_mono (Kd.R_far (p := ⟨gb209, 3, none⟩) (Kd.R_far (p := ⟨gb209, 2, none⟩) (Kd.R_far (p := ⟨gb209, 1, none⟩) (Kd.R_far (p := ⟨gb209, 0, none⟩) (Kd.R_types HO_205002.out BK209.out (by decide)) (fun _ hk => hk.2) (.string ((rd_T40 l0 x7_1).f0))) (fun _ hk => hk.2) (.slice A208_1 ((rd_T40 l0 x7_1).f1).length c208_1)) (fun _ hk => hk.2) (.slice A208_2 ((rd_T40 l0 x7_1).f2).length c208_2)) (fun _ hk => hk.2) (.slice A208_3 ((rd_T40 l0 x7_1).f3).length c208_3)) (fun _ hk => trivial)⟩
                  have n2_ : Aside0 (((((w14.setCell ⟨gb209, 0, none⟩ (.string ((rd_T40 l0 x7_1).f0))).setCell ⟨gb209, 1, none⟩ (.slice A208_1 ((rd_T40 l0 x7_1).f1).length c208_1)).setCell ⟨gb209, 2, none⟩ (.slice A208_2 ((rd_T40 l0 x7_1).f2).length c208_2)).setCell ⟨gb209, 3, none⟩ (.slice A208_3 ((rd_T40 l0 x7_1).f3).length c208_3)).heap[gb204]? = some (.cells #[.string t196, .slice Ao9 t197.length co9, .slice Ao10 t200.length co10] 29 (0, 0))) := ⟨by (with_reducible repeat (first | refine blk_drewN ?_ _ | refine blk_drew ?_ | refine blk_alloc ?_ _)); refine blk_far ?_ NB204_209.out _; (with_reducible repeat (first | refine blk_drewN ?_ _ | refine blk_drew ?_ | refine blk_alloc ?_ _)); refine blk_far ?_ NB204_209.out _; (with_reducible repeat (first | refine blk_drewN ?_ _ | refine blk_drew ?_ | refine blk_alloc ?_ _)); refine blk_far ?_ NB204_209.out _; (with_reducible repeat (first | refine blk_drewN ?_ _ | refine blk_drew ?_ | refine blk_alloc ?_ _)); refine blk_far ?_ NB204_209.out _; (with_reducible repeat (first | refine blk_drewN ?_ _ | refine blk_drew ?_ | refine blk_alloc ?_ _)); exact BK204.out⟩
                  have n3_ : Aside0 (((((w14.setCell ⟨gb209, 0, none⟩ (.string ((rd_T40 l0 x7_1).f0))).setCell ⟨gb209, 1, none⟩ (.slice A208_1 ((rd_T40 l0 x7_1).f1).length c208_1)).setCell ⟨gb209, 2, none⟩ (.slice A208_2 ((rd_T40 l0 x7_1).f2).length c208_2)).setCell ⟨gb209, 3, none⟩ (.slice A208_3 ((rd_T40 l0 x7_1).f3).length c208_3)).heap[gb209]? = some (.cells #[.string ((rd_T40 l0 x7_1).f0), .slice A208_1 ((rd_T40 l0 x7_1).f1).length c208_1, .slice A208_2 ((rd_T40 l0 x7_1).f2).length c208_2, .slice A208_3 ((rd_T40 l0 x7_1).f3).length c208_3] 40 (0, 0))) := ⟨by (with_reducible repeat (first | refine blk_drewN ?_ _ | refine blk_drew ?_ | refine blk_alloc ?_ _)); refine blk_put (cs := #[.string ((rd_T40 l0 x7_1).f0), .slice A208_1 ((rd_T40 l0 x7_1).f1).length c208_1, .slice A208_2 ((rd_T40 l0 x7_1).f2).length c208_2, .slice none 0 0]) ?_ 3 _ rfl; (with_reducible repeat (first | refine blk_drewN ?_ _ | refine blk_drew ?_ | refine blk_alloc ?_ _)); refine blk_put (cs := #[.string ((rd_T40 l0 x7_1).f0), .slice A208_1 ((rd_T40 l0 x7_1).f1).length c208_1, .slice none 0 0, .slice none 0 0]) ?_ 2 _ rfl; (with_reducible repeat (first | refine blk_drewN ?_ _ | refine blk_drew ?_ | refine blk_alloc ?_ _)); refine blk_put (cs := #[.string ((rd_T40 l0 x7_1).f0), .slice none 0 0, .slice none 0 0, .slice none 0 0]) ?_ 1 _ rfl; (with_reducible repeat (first | refine blk_drewN ?_ _ | refine blk_drew ?_ | refine blk_alloc ?_ _)); refine blk_put (cs := #[.string (⟨#[]⟩ : ByteArray), .slice none 0 0, .slice none 0 0, .slice none 0 0]) ?_ 0 _ rfl; (with_reducible repeat (first | refine blk_drewN ?_ _ | refine blk_drew ?_ | refine blk_alloc ?_ _)); exact BK209.out⟩
                  have n4_ : Aside0 (Below w.heap.size w ((((w14.setCell ⟨gb209, 0, none⟩ (.string ((rd_T40 l0 x7_1).f0))).setCell ⟨gb209, 1, none⟩ (.slice A208_1 ((rd_T40 l0 x7_1).f1).length c208_1)).setCell ⟨gb209, 2, none⟩ (.slice A208_2 ((rd_T40 l0 x7_1).f2).length c208_2)).setCell ⟨gb209, 3, none⟩ (.slice A208_3 ((rd_T40 l0 x7_1).f3).length c208_3))) := ⟨by repeat (first | (with_reducible first | exact HB.out | apply below_alloc | apply pw_below_drewN | apply below_drew1 | refine below_set ?_ GE204.out | refine below_set ?_ GE209.out) | exact HB.out)⟩
                  (try clear HO_205001)
                  (try clear HO_205002)
                  (try clear BK204)
                  (try clear BK209)
                  (try clear HB)
                  generalize ((((w14.setCell ⟨gb209, 0, none⟩ (.string ((rd_T40 l0 x7_1).f0))).setCell ⟨gb209, 1, none⟩ (.slice A208_1 ((rd_T40 l0 x7_1).f1).length c208_1)).setCell ⟨gb209, 2, none⟩ (.slice A208_2 ((rd_T40 l0 x7_1).f2).length c208_2)).setCell ⟨gb209, 3, none⟩ (.slice A208_3 ((rd_T40 l0 x7_1).f3).length c208_3)) = w18 at n0_ n1_ n2_ n3_ n4_ ⊢
                  have HO_205001 := n0_
                  have HO_205002 := n1_
                  have BK204 := n2_
                  have BK209 := n3_
                  have HB := n4_
                  clear n0_ n1_ n2_ n3_ n4_
                  have o_HO_205001 := HO_205001
                  have n0_ := Aside0.mk (Kd.R_drew HO_205001.out)
                  have o_HO_205002 := HO_205002
                  have n1_ := Aside0.mk (Kd.R_drew HO_205002.out)
                  have o_BK204 := BK204
                  have n2_ := Aside0.mk (blk_drew BK204.out)
                  have o_BK209 := BK209
                  have n3_ := Aside0.mk (blk_drew BK209.out)
                  have o_HB := HB
                  have n4_ := Aside0.mk (below_drew1 HB.out)
                  clear HO_205001
                  clear HO_205002
                  clear BK204
                  clear BK209
                  clear HB
                  have HO_205001 := n0_
                  have HO_205002 := n1_
                  have BK204 := n2_
                  have BK209 := n3_
                  have HB := n4_
                  clear n0_ n1_ n2_ n3_ n4_
                  refine start_ (n := 35) (S := fun w' => w'.cell? ⟨gb209, 0, none⟩ = some (.string ((rd_T40 l0 x7_1).f0)) ∧ w'.cell? ⟨gb209, 1, none⟩ = some (.slice A208_1 ((rd_T40 l0 x7_1).f1).length c208_1) ∧ w'.cell? ⟨gb209, 2, none⟩ = some (.slice A208_2 ((rd_T40 l0 x7_1).f2).length c208_2) ∧ w'.cell? ⟨gb209, 3, none⟩ = some (.slice A208_3 ((rd_T40 l0 x7_1).f3).length c208_3) ∧ w'.cell? ⟨gb204, 0, none⟩ = some (.string t196) ∧ w'.cell? ⟨gb204, 1, none⟩ = some (.slice Ao9 t197.length co9) ∧ w'.cell? ⟨gb204, 2, none⟩ = some (.slice Ao10 t200.length co10)) (ds := []) #[false, false, false, false, false, false, false, false, false, false, false, false, false, false, false, false, false, false, false, false, false, false, false, false, false, false, false, false, false, false, false, false, false, false, false] (by kernel_rfl) rfl rfl ⟨(blk_cell BK209.out 0).trans rfl, (blk_cell BK209.out 1).trans rfl, (blk_cell BK209.out 2).trans rfl, (blk_cell BK209.out 3).trans rfl, (blk_cell BK204.out 0).trans rfl, (blk_cell BK204.out 1).trans rfl, (blk_cell BK204.out 2).trans rfl⟩ (fun hHeld => ?_); refine with_tabW cotterlaw07_LinkKeeps.tab12 cotterlaw07_LinkKeeps.bits12 (fun HT_ HW_ => ?_)
                  first | (generalize hwd_ : w18.drewN _ = w19 at hHeld ⊢; obtain ⟨nN_, hn_⟩ : ∃ n_, w18.drewN n_ = w19 := ⟨_, hwd_⟩; clear HO_205001 HO_205002 BK204 BK209 HB; have HO_205001 := Aside0.mk (Kd.R_drewN o_HO_205001.out nN_); rw [hn_] at HO_205001; have HO_205002 := Aside0.mk (Kd.R_drewN o_HO_205002.out nN_); rw [hn_] at HO_205002; have BK204 := Aside0.mk (blk_drewN o_BK204.out nN_); rw [hn_] at BK204; have BK209 := Aside0.mk (blk_drewN o_BK209.out nN_); rw [hn_] at BK209; have HB := Aside0.mk (pw_below_drewN o_HB.out nN_); rw [hn_] at HB; clear hn_ hwd_) | generalize w18.drew = w19 at HO_205001 HO_205002 BK204 BK209 HB hHeld ⊢
                  refine pure_ (i := 0) (N := some 40) (v := ?_) (a' := ?_) #[true, false, false, false, false, false, false, false, false, false, false, false, false, false, false, false, false, false, false, false, false, false, false, false, false, false, false, false, false, false, false, false, false, false, false] rfl rfl (any_of HT_.out (by kernel_rfl)) (fun _ _ _ h => h) (Or.inl ⟨by rfl, ?_⟩) ?_ ?_
                  rotate_left
                  · intro w'
                    go_simp
                    with_reducible rfl
                  rotate_left
                  · simp only [Act.put, List.setIfInBounds_toArray, List.set_cons_zero, List.set_cons_succ, i64_w, i32_w]
                    rfl
                  refine pure_ (i := 1) (N := some 41) (v := ?_) (a' := ?_) #[true, true, false, false, false, false, false, false, false, false, false, false, false, false, false, false, false, false, false, false, false, false, false, false, false, false, false, false, false, false, false, false, false, false, false] rfl rfl (any_of HT_.out (by kernel_rfl)) (fun _ _ _ h => h) (Or.inl ⟨by rfl, ?_⟩) ?_ ?_
                  rotate_left
                  · intro w'
                    go_simp
                    with_reducible rfl
                  rotate_left
                  · simp only [Act.put, List.setIfInBounds_toArray, List.set_cons_zero, List.set_cons_succ, i64_w, i32_w]
                    rfl
                  refine pure_ (i := 5) (N := some 45) (v := ?_) (a' := ?_) #[true, true, false, false, false, true, false, false, false, false, false, false, false, false, false, false, false, false, false, false, false, false, false, false, false, false, false, false, false, false, false, false, false, false, false] rfl rfl (any_of HT_.out (by kernel_rfl)) (fun _ _ _ h => h) (Or.inl ⟨by rfl, ?_⟩) ?_ ?_
                  rotate_left
                  · intro w'
                    go_simp
                    with_reducible rfl
                  rotate_left
                  · simp only [Act.put, List.setIfInBounds_toArray, List.set_cons_zero, List.set_cons_succ, i64_w, i32_w]
                    rfl
                  refine take_ (i := 2) (N := some 42) (v := ?_) (a' := ?_) #[true, true, true, false, false, true, false, false, false, false, false, false, false, false, false, false, false, false, false, false, false, false, false, false, false, false, false, false, false, false, false, false, false, false, false] rfl rfl (take_ofW HT_.out HW_.out (by kernel_rfl)) (fun _ _ _ h => h) (Or.inl ⟨by rfl, ?_⟩) hHeld ?_ ?_
                  rotate_left
                  · rintro w' ⟨s0, s1, s2, s3, s4, s5, s6⟩
                    go_simp
                    with_reducible rfl
                  rotate_left
                  · simp only [Act.put, List.setIfInBounds_toArray, List.set_cons_zero, List.set_cons_succ, i64_w, i32_w]
                    rfl
                  refine pure_ (i := 3) (N := some 43) (v := ?_) (a' := ?_) #[true, true, true, true, false, true, false, false, false, false, false, false, false, false, false, false, false, false, false, false, false, false, false, false, false, false, false, false, false, false, false, false, false, false, false] rfl rfl (any_of HT_.out (by kernel_rfl)) (fun _ _ _ h => h) (Or.inl ⟨by rfl, ?_⟩) ?_ ?_
                  rotate_left
                  · intro w'
                    go_simp
                    with_reducible rfl
                  rotate_left
                  · simp only [Act.put, List.setIfInBounds_toArray, List.set_cons_zero, List.set_cons_succ, i64_w, i32_w]
                    rfl
                  refine pure_ (i := 4) (N := some 44) (v := ?_) (a' := ?_) #[true, true, true, true, true, true, false, false, false, false, false, false, false, false, false, false, false, false, false, false, false, false, false, false, false, false, false, false, false, false, false, false, false, false, false] rfl rfl (any_of HT_.out (by kernel_rfl)) (fun _ _ _ h => h) (Or.inl ⟨by rfl, ?_⟩) ?_ ?_
                  rotate_left
                  · intro w'
                    go_simp
                    with_reducible rfl
                  rotate_left
                  · simp only [Act.put, List.setIfInBounds_toArray, List.set_cons_zero, List.set_cons_succ, i64_w, i32_w]
                    rfl
                  refine take_ (i := 6) (N := some 46) (v := ?_) (a' := ?_) #[true, true, true, true, true, true, true, false, false, false, false, false, false, false, false, false, false, false, false, false, false, false, false, false, false, false, false, false, false, false, false, false, false, false, false] rfl rfl (take_ofW HT_.out HW_.out (by kernel_rfl)) (fun _ _ _ h => h) (Or.inl ⟨by rfl, ?_⟩) hHeld ?_ ?_
                  rotate_left
                  · rintro w' ⟨s0, s1, s2, s3, s4, s5, s6⟩
                    go_simp
                    with_reducible rfl
                  rotate_left
                  · simp only [Act.put, List.setIfInBounds_toArray, List.set_cons_zero, List.set_cons_succ, i64_w, i32_w]
                    rfl
                  refine pure_ (i := 7) (N := some 47) (v := ?_) (a' := ?_) #[true, true, true, true, true, true, true, true, false, false, false, false, false, false, false, false, false, false, false, false, false, false, false, false, false, false, false, false, false, false, false, false, false, false, false] rfl rfl (any_of HT_.out (by kernel_rfl)) (fun _ _ _ h => h) (Or.inl ⟨by rfl, ?_⟩) ?_ ?_
                  rotate_left
                  · intro w'
                    go_simp
                    with_reducible rfl
                  rotate_left
                  · simp only [Act.put, List.setIfInBounds_toArray, List.set_cons_zero, List.set_cons_succ, i64_w, i32_w]
                    rfl
                  refine pure_ (i := 8) (N := some 48) (v := ?_) (a' := ?_) #[true, true, true, true, true, true, true, true, true, false, false, false, false, false, false, false, false, false, false, false, false, false, false, false, false, false, false, false, false, false, false, false, false, false, false] rfl rfl (any_of HT_.out (by kernel_rfl)) (fun _ _ _ h => h) (Or.inl ⟨by rfl, ?_⟩) ?_ ?_
                  rotate_left
                  · intro w'
                    go_simp
                    with_reducible rfl
                  rotate_left
                  · simp only [Act.put, List.setIfInBounds_toArray, List.set_cons_zero, List.set_cons_succ, i64_w, i32_w]
                    rfl
                  refine pure_ (i := 9) (N := some 49) (v := ?_) (a' := ?_) #[true, true, true, true, true, true, true, true, true, true, false, false, false, false, false, false, false, false, false, false, false, false, false, false, false, false, false, false, false, false, false, false, false, false, false] rfl rfl (any_of HT_.out (by kernel_rfl)) (fun _ _ _ h => h) (Or.inl ⟨by rfl, ?_⟩) ?_ ?_
                  rotate_left
                  · intro w'
                    go_simp
                    with_reducible rfl
                  rotate_left
                  · simp only [Act.put, List.setIfInBounds_toArray, List.set_cons_zero, List.set_cons_succ, i64_w, i32_w]
                    rfl
                  refine pure_ (i := 10) (N := some 50) (v := undef) (a' := ?_) #[true, true, true, true, true, true, true, true, true, true, true, false, false, false, false, false, false, false, false, false, false, false, false, false, false, false, false, false, false, false, false, false, false, false, false] rfl rfl (any_of HT_.out (by kernel_rfl)) (fun _ _ _ h => h) (Or.inr ⟨by rfl, rfl⟩) ?_ ?_
                  rotate_left
                  · simp only [Act.put, List.setIfInBounds_toArray, List.set_cons_zero, List.set_cons_succ, i64_w, i32_w]
                    rfl
                  refine pure_ (i := 11) (N := some 51) (v := undef) (a' := ?_) #[true, true, true, true, true, true, true, true, true, true, true, true, false, false, false, false, false, false, false, false, false, false, false, false, false, false, false, false, false, false, false, false, false, false, false] rfl rfl (any_of HT_.out (by kernel_rfl)) (fun _ _ _ h => h) (Or.inr ⟨by rfl, rfl⟩) ?_ ?_
                  rotate_left
                  · simp only [Act.put, List.setIfInBounds_toArray, List.set_cons_zero, List.set_cons_succ, i64_w, i32_w]
                    rfl
                  refine pure_ (i := 12) (N := some 52) (v := undef) (a' := ?_) #[true, true, true, true, true, true, true, true, true, true, true, true, true, false, false, false, false, false, false, false, false, false, false, false, false, false, false, false, false, false, false, false, false, false, false] rfl rfl (any_of HT_.out (by kernel_rfl)) (fun _ _ _ h => h) (Or.inr ⟨by rfl, rfl⟩) ?_ ?_
                  rotate_left
                  · simp only [Act.put, List.setIfInBounds_toArray, List.set_cons_zero, List.set_cons_succ, i64_w, i32_w]
                    rfl
                  refine pure_ (i := 13) (N := some 53) (v := undef) (a' := ?_) #[true, true, true, true, true, true, true, true, true, true, true, true, true, true, false, false, false, false, false, false, false, false, false, false, false, false, false, false, false, false, false, false, false, false, false] rfl rfl (any_of HT_.out (by kernel_rfl)) (fun _ _ _ h => h) (Or.inr ⟨by rfl, rfl⟩) ?_ ?_
                  rotate_left
                  · simp only [Act.put, List.setIfInBounds_toArray, List.set_cons_zero, List.set_cons_succ, i64_w, i32_w]
                    rfl
                  refine pure_ (i := 14) (N := some 54) (v := undef) (a' := ?_) #[true, true, true, true, true, true, true, true, true, true, true, true, true, true, true, false, false, false, false, false, false, false, false, false, false, false, false, false, false, false, false, false, false, false, false] rfl rfl (any_of HT_.out (by kernel_rfl)) (fun _ _ _ h => h) (Or.inr ⟨by rfl, rfl⟩) ?_ ?_
                  rotate_left
                  · simp only [Act.put, List.setIfInBounds_toArray, List.set_cons_zero, List.set_cons_succ, i64_w, i32_w]
                    rfl
                  refine pure_ (i := 15) (N := some 55) (v := undef) (a' := ?_) #[true, true, true, true, true, true, true, true, true, true, true, true, true, true, true, true, false, false, false, false, false, false, false, false, false, false, false, false, false, false, false, false, false, false, false] rfl rfl (any_of HT_.out (by kernel_rfl)) (fun _ _ _ h => h) (Or.inr ⟨by rfl, rfl⟩) ?_ ?_
                  rotate_left
                  · simp only [Act.put, List.setIfInBounds_toArray, List.set_cons_zero, List.set_cons_succ, i64_w, i32_w]
                    rfl
                  refine pure_ (i := 16) (N := some 56) (v := undef) (a' := ?_) #[true, true, true, true, true, true, true, true, true, true, true, true, true, true, true, true, true, false, false, false, false, false, false, false, false, false, false, false, false, false, false, false, false, false, false] rfl rfl (any_of HT_.out (by kernel_rfl)) (fun _ _ _ h => h) (Or.inr ⟨by rfl, rfl⟩) ?_ ?_
                  rotate_left
                  · simp only [Act.put, List.setIfInBounds_toArray, List.set_cons_zero, List.set_cons_succ, i64_w, i32_w]
                    rfl
                  refine pure_ (i := 17) (N := some 57) (v := undef) (a' := ?_) #[true, true, true, true, true, true, true, true, true, true, true, true, true, true, true, true, true, true, false, false, false, false, false, false, false, false, false, false, false, false, false, false, false, false, false] rfl rfl (any_of HT_.out (by kernel_rfl)) (fun _ _ _ h => h) (Or.inr ⟨by rfl, rfl⟩) ?_ ?_
                  rotate_left
                  · simp only [Act.put, List.setIfInBounds_toArray, List.set_cons_zero, List.set_cons_succ, i64_w, i32_w]
                    rfl
                  refine pure_ (i := 18) (N := some 58) (v := undef) (a' := ?_) #[true, true, true, true, true, true, true, true, true, true, true, true, true, true, true, true, true, true, true, false, false, false, false, false, false, false, false, false, false, false, false, false, false, false, false] rfl rfl (any_of HT_.out (by kernel_rfl)) (fun _ _ _ h => h) (Or.inr ⟨by rfl, rfl⟩) ?_ ?_
                  rotate_left
                  · simp only [Act.put, List.setIfInBounds_toArray, List.set_cons_zero, List.set_cons_succ, i64_w, i32_w]
                    rfl
                  refine pure_ (i := 19) (N := some 59) (v := ?_) (a' := ?_) #[true, true, true, true, true, true, true, true, true, true, true, true, true, true, true, true, true, true, true, true, false, false, false, false, false, false, false, false, false, false, false, false, false, false, false] rfl rfl (any_of HT_.out (by kernel_rfl)) (fun _ _ _ h => h) (Or.inl ⟨by rfl, ?_⟩) ?_ ?_
                  rotate_left
                  · intro w'
                    go_simp
                    with_reducible rfl
                  rotate_left
                  · simp only [Act.put, List.setIfInBounds_toArray, List.set_cons_zero, List.set_cons_succ, i64_w, i32_w]
                    rfl
                  refine pure_ (i := 20) (N := some 60) (v := ?_) (a' := ?_) #[true, true, true, true, true, true, true, true, true, true, true, true, true, true, true, true, true, true, true, true, true, false, false, false, false, false, false, false, false, false, false, false, false, false, false] rfl rfl (any_of HT_.out (by kernel_rfl)) (fun _ _ _ h => h) (Or.inl ⟨by rfl, ?_⟩) ?_ ?_
                  rotate_left
                  · intro w'
                    go_simp
                    with_reducible rfl
                  rotate_left
                  · simp only [Act.put, List.setIfInBounds_toArray, List.set_cons_zero, List.set_cons_succ, i64_w, i32_w]
                    rfl
                  refine pure_ (i := 21) (N := some 61) (v := undef) (a' := ?_) #[true, true, true, true, true, true, true, true, true, true, true, true, true, true, true, true, true, true, true, true, true, true, false, false, false, false, false, false, false, false, false, false, false, false, false] rfl rfl (any_of HT_.out (by kernel_rfl)) (fun _ _ _ h => h) (Or.inr ⟨by rfl, rfl⟩) ?_ ?_
                  rotate_left
                  · simp only [Act.put, List.setIfInBounds_toArray, List.set_cons_zero, List.set_cons_succ, i64_w, i32_w]
                    rfl
                  refine pure_ (i := 22) (N := some 62) (v := undef) (a' := ?_) #[true, true, true, true, true, true, true, true, true, true, true, true, true, true, true, true, true, true, true, true, true, true, true, false, false, false, false, false, false, false, false, false, false, false, false] rfl rfl (any_of HT_.out (by kernel_rfl)) (fun _ _ _ h => h) (Or.inr ⟨by rfl, rfl⟩) ?_ ?_
                  rotate_left
                  · simp only [Act.put, List.setIfInBounds_toArray, List.set_cons_zero, List.set_cons_succ, i64_w, i32_w]
                    rfl
                  refine pure_ (i := 23) (N := some 63) (v := undef) (a' := ?_) #[true, true, true, true, true, true, true, true, true, true, true, true, true, true, true, true, true, true, true, true, true, true, true, true, false, false, false, false, false, false, false, false, false, false, false] rfl rfl (any_of HT_.out (by kernel_rfl)) (fun _ _ _ h => h) (Or.inr ⟨by rfl, rfl⟩) ?_ ?_
                  rotate_left
                  · simp only [Act.put, List.setIfInBounds_toArray, List.set_cons_zero, List.set_cons_succ, i64_w, i32_w]
                    rfl
                  refine pure_ (i := 24) (N := some 64) (v := undef) (a' := ?_) #[true, true, true, true, true, true, true, true, true, true, true, true, true, true, true, true, true, true, true, true, true, true, true, true, true, false, false, false, false, false, false, false, false, false, false] rfl rfl (any_of HT_.out (by kernel_rfl)) (fun _ _ _ h => h) (Or.inr ⟨by rfl, rfl⟩) ?_ ?_
                  rotate_left
                  · simp only [Act.put, List.setIfInBounds_toArray, List.set_cons_zero, List.set_cons_succ, i64_w, i32_w]
                    rfl
                  refine pure_ (i := 25) (N := some 65) (v := undef) (a' := ?_) #[true, true, true, true, true, true, true, true, true, true, true, true, true, true, true, true, true, true, true, true, true, true, true, true, true, true, false, false, false, false, false, false, false, false, false] rfl rfl (any_of HT_.out (by kernel_rfl)) (fun _ _ _ h => h) (Or.inr ⟨by rfl, rfl⟩) ?_ ?_
                  rotate_left
                  · simp only [Act.put, List.setIfInBounds_toArray, List.set_cons_zero, List.set_cons_succ, i64_w, i32_w]
                    rfl
                  refine pure_ (i := 26) (N := some 66) (v := undef) (a' := ?_) #[true, true, true, true, true, true, true, true, true, true, true, true, true, true, true, true, true, true, true, true, true, true, true, true, true, true, true, false, false, false, false, false, false, false, false] rfl rfl (any_of HT_.out (by kernel_rfl)) (fun _ _ _ h => h) (Or.inr ⟨by rfl, rfl⟩) ?_ ?_
                  rotate_left
                  · simp only [Act.put, List.setIfInBounds_toArray, List.set_cons_zero, List.set_cons_succ, i64_w, i32_w]
                    rfl
                  refine pure_ (i := 27) (N := some 67) (v := undef) (a' := ?_) #[true, true, true, true, true, true, true, true, true, true, true, true, true, true, true, true, true, true, true, true, true, true, true, true, true, true, true, true, false, false, false, false, false, false, false] rfl rfl (any_of HT_.out (by kernel_rfl)) (fun _ _ _ h => h) (Or.inr ⟨by rfl, rfl⟩) ?_ ?_
                  rotate_left
                  · simp only [Act.put, List.setIfInBounds_toArray, List.set_cons_zero, List.set_cons_succ, i64_w, i32_w]
                    rfl
                  refine pure_ (i := 28) (N := some 68) (v := undef) (a' := ?_) #[true, true, true, true, true, true, true, true, true, true, true, true, true, true, true, true, true, true, true, true, true, true, true, true, true, true, true, true, true, false, false, false, false, false, false] rfl rfl (any_of HT_.out (by kernel_rfl)) (fun _ _ _ h => h) (Or.inr ⟨by rfl, rfl⟩) ?_ ?_
                  rotate_left
                  · simp only [Act.put, List.setIfInBounds_toArray, List.set_cons_zero, List.set_cons_succ, i64_w, i32_w]
                    rfl
                  refine pure_ (i := 29) (N := some 69) (v := undef) (a' := ?_) #[true, true, true, true, true, true, true, true, true, true, true, true, true, true, true, true, true, true, true, true, true, true, true, true, true, true, true, true, true, true, false, false, false, false, false] rfl rfl (any_of HT_.out (by kernel_rfl)) (fun _ _ _ h => h) (Or.inr ⟨by rfl, rfl⟩) ?_ ?_
                  rotate_left
                  · simp only [Act.put, List.setIfInBounds_toArray, List.set_cons_zero, List.set_cons_succ, i64_w, i32_w]
                    rfl
                  refine pure_ (i := 30) (N := some 70) (v := undef) (a' := ?_) #[true, true, true, true, true, true, true, true, true, true, true, true, true, true, true, true, true, true, true, true, true, true, true, true, true, true, true, true, true, true, true, false, false, false, false] rfl rfl (any_of HT_.out (by kernel_rfl)) (fun _ _ _ h => h) (Or.inr ⟨by rfl, rfl⟩) ?_ ?_
                  rotate_left
                  · simp only [Act.put, List.setIfInBounds_toArray, List.set_cons_zero, List.set_cons_succ, i64_w, i32_w]
                    rfl
                  refine pure_ (i := 31) (N := some 71) (v := undef) (a' := ?_) #[true, true, true, true, true, true, true, true, true, true, true, true, true, true, true, true, true, true, true, true, true, true, true, true, true, true, true, true, true, true, true, true, false, false, false] rfl rfl (any_of HT_.out (by kernel_rfl)) (fun _ _ _ h => h) (Or.inr ⟨by rfl, rfl⟩) ?_ ?_
                  rotate_left
                  · simp only [Act.put, List.setIfInBounds_toArray, List.set_cons_zero, List.set_cons_succ, i64_w, i32_w]
                    rfl
                  refine pure_ (i := 32) (N := some 72) (v := undef) (a' := ?_) #[true, true, true, true, true, true, true, true, true, true, true, true, true, true, true, true, true, true, true, true, true, true, true, true, true, true, true, true, true, true, true, true, true, false, false] rfl rfl (any_of HT_.out (by kernel_rfl)) (fun _ _ _ h => h) (Or.inr ⟨by rfl, rfl⟩) ?_ ?_
                  rotate_left
                  · simp only [Act.put, List.setIfInBounds_toArray, List.set_cons_zero, List.set_cons_succ, i64_w, i32_w]
                    rfl
                  refine pure_ (i := 33) (N := some 73) (v := undef) (a' := ?_) #[true, true, true, true, true, true, true, true, true, true, true, true, true, true, true, true, true, true, true, true, true, true, true, true, true, true, true, true, true, true, true, true, true, true, false] rfl rfl (any_of HT_.out (by kernel_rfl)) (fun _ _ _ h => h) (Or.inr ⟨by rfl, rfl⟩) ?_ ?_
                  rotate_left
                  · simp only [Act.put, List.setIfInBounds_toArray, List.set_cons_zero, List.set_cons_succ, i64_w, i32_w]
                    rfl
                  refine pure_ (i := 34) (N := some 74) (v := ?_) (a' := ?_) #[true, true, true, true, true, true, true, true, true, true, true, true, true, true, true, true, true, true, true, true, true, true, true, true, true, true, true, true, true, true, true, true, true, true, true] rfl rfl (any_of HT_.out (by kernel_rfl)) (fun _ _ _ h => h) (Or.inl ⟨by rfl, ?_⟩) ?_ ?_
                  rotate_left
                  · intro w'
                    go_simp
                    with_reducible rfl
                  rotate_left
                  · simp only [Act.put, List.setIfInBounds_toArray, List.set_cons_zero, List.set_cons_succ, i64_w, i32_w]
                    rfl
                  refine done_ (done_of HT_.out (by kernel_rfl)) ?_
                  try go_wp2
                  go_meet
                  case rel => exact ⟨_, (true), (by first | rfl | (simp; done) | (simp [*]; done)), H', ⟨by have := HK1.out; first | omega | exact Nat.le_refl _⟩, ⟨by (with_reducible repeat (first | apply Kd.R_alloc | apply Kd.R_drewN | apply Kd.R_drew)); exact HO_205001.out⟩, ⟨by (with_reducible repeat (first | apply Kd.R_alloc | apply Kd.R_drewN | apply Kd.R_drew)); exact HO_205002.out⟩, ⟨by (with_reducible repeat (first | refine blk_drewN ?_ _ | refine blk_drew ?_ | refine blk_alloc ?_ _)); exact BK204.out⟩, ⟨by (with_reducible repeat (first | refine blk_drewN ?_ _ | refine blk_drew ?_ | refine blk_alloc ?_ _)); exact BK209.out⟩, ⟨by repeat (first | (with_reducible first | exact HB.out | apply below_alloc | apply pw_below_drewN | apply below_drew1 | refine below_set ?_ GE204.out | refine below_set ?_ GE209.out) | exact HB.out)⟩⟩
                · rw [if_neg c17] at H
                  have c17b0 : decide ((t196.size : Int) < (wrap64 (x5_1 + (((rd_T40 l0 x7_1).f0).size : Int)))) = false := decide_eq_false c17
                  clear c17
                  (first | rw [c17b0] | (simp only [i64_w, i32_w]; rw [c17b0]) | skip)
                  by_cases c20 : (wrap64 (x6_1 + (((rd_T40 l0 x7_1).f1).length : Int))) > (t197.length : Int)
                  · rw [if_pos c20] at H
                    have c20b0 : decide ((t197.length : Int) < (wrap64 (x6_1 + (((rd_T40 l0 x7_1).f1).length : Int)))) = true := decide_eq_true c20
                    clear c20
                    have H' := Aside0.mk H
                    clear H
                    try go_wp2
                    have n0_ : Aside0 (Kd.R (Kd.int .i64) 2 ((((w14.setCell ⟨gb209, 0, none⟩ (.string ((rd_T40 l0 x7_1).f0))).setCell ⟨gb209, 1, none⟩ (.slice A208_1 ((rd_T40 l0 x7_1).f1).length c208_1)).setCell ⟨gb209, 2, none⟩ (.slice A208_2 ((rd_T40 l0 x7_1).f2).length c208_2)).setCell ⟨gb209, 3, none⟩ (.slice A208_3 ((rd_T40 l0 x7_1).f3).length c208_3)) w.heap.size (fun _ => True) (.slice Ao9 t197.length co9) t197) := ⟨by (with_reducible repeat (first | apply Kd.R_alloc | apply Kd.R_drewN | apply Kd.R_drew)); exact Kd.R_mono (Kd.R_far (p := ⟨gb209, 3, none⟩) (Kd.R_far (p := ⟨gb209, 2, none⟩) (Kd.R_far (p := ⟨gb209, 1, none⟩) (Kd.R_far (p := ⟨gb209, 0, none⟩) (Kd.R_types HO_205001.out BK209.out (by decide)) (fun _ hk => hk.2) (.string ((rd_T40 l0 x7_1).f0))) (fun _ hk => hk.2) (.slice A208_1 ((rd_T40 l0 x7_1).f1).length c208_1)) (fun _ hk => hk.2) (.slice A208_2 ((rd_T40 l0 x7_1).f2).length c208_2)) (fun _ hk => hk.2) (.slice A208_3 ((rd_T40 l0 x7_1).f3).length c208_3)) (fun _ hk => trivial)⟩
                    have n1_ : Aside0 (Kd.R k36 36 ((((w14.setCell ⟨gb209, 0, none⟩ (.string ((rd_T40 l0 x7_1).f0))).setCell ⟨gb209, 1, none⟩ (.slice A208_1 ((rd_T40 l0 x7_1).f1).length c208_1)).setCell ⟨gb209, 2, none⟩ (.slice A208_2 ((rd_T40 l0 x7_1).f2).length c208_2)).setCell ⟨gb209, 3, none⟩ (.slice A208_3 ((rd_T40 l0 x7_1).f3).length c208_3)) w.heap.size (fun _ => True) (.slice Ao10 t200.length co10) t200) := ⟨by (with_reducible repeat (first | apply Kd.R_alloc | apply Kd.R_drewN | apply Kd.R_drew)); exact Kd.R_mono (Kd.R_far (p := ⟨gb209, 3, none⟩) (Kd.R_far (p := ⟨gb209, 2, none⟩) (Kd.R_far (p := ⟨gb209, 1, none⟩) (Kd.R_far (p := ⟨gb209, 0, none⟩) (Kd.R_types HO_205002.out BK209.out (by decide)) (fun _ hk => hk.2) (.string ((rd_T40 l0 x7_1).f0))) (fun _ hk => hk.2) (.slice A208_1 ((rd_T40 l0 x7_1).f1).length c208_1)) (fun _ hk => hk.2) (.slice A208_2 ((rd_T40 l0 x7_1).f2).length c208_2)) (fun _ hk => hk.2) (.slice A208_3 ((rd_T40 l0 x7_1).f3).length c208_3)) (fun _ hk => trivial)⟩
                    have n2_ : Aside0 (((((w14.setCell ⟨gb209, 0, none⟩ (.string ((rd_T40 l0 x7_1).f0))).setCell ⟨gb209, 1, none⟩ (.slice A208_1 ((rd_T40 l0 x7_1).f1).length c208_1)).setCell ⟨gb209, 2, none⟩ (.slice A208_2 ((rd_T40 l0 x7_1).f2).length c208_2)).setCell ⟨gb209, 3, none⟩ (.slice A208_3 ((rd_T40 l0 x7_1).f3).length c208_3)).heap[gb204]? = some (.cells #[.string t196, .slice Ao9 t197.length co9, .slice Ao10 t200.length co10] 29 (0, 0))) := ⟨by (with_reducible repeat (first | refine blk_drewN ?_ _ | refine blk_drew ?_ | refine blk_alloc ?_ _)); refine blk_far ?_ NB204_209.out _; (with_reducible repeat (first | refine blk_drewN ?_ _ | refine blk_drew ?_ | refine blk_alloc ?_ _)); refine blk_far ?_ NB204_209.out _; (with_reducible repeat (first | refine blk_drewN ?_ _ | refine blk_drew ?_ | refine blk_alloc ?_ _)); refine blk_far ?_ NB204_209.out _; (with_reducible repeat (first | refine blk_drewN ?_ _ | refine blk_drew ?_ | refine blk_alloc ?_ _)); refine blk_far ?_ NB204_209.out _; (with_reducible repeat (first | refine blk_drewN ?_ _ | refine blk_drew ?_ | refine blk_alloc ?_ _)); exact BK204.out⟩
                    have n3_ : Aside0 (((((w14.setCell ⟨gb209, 0, none⟩ (.string ((rd_T40 l0 x7_1).f0))).setCell ⟨gb209, 1, none⟩ (.slice A208_1 ((rd_T40 l0 x7_1).f1).length c208_1)).setCell ⟨gb209, 2, none⟩ (.slice A208_2 ((rd_T40 l0 x7_1).f2).length c208_2)).setCell ⟨gb209, 3, none⟩ (.slice A208_3 ((rd_T40 l0 x7_1).f3).length c208_3)).heap[gb209]? = some (.cells #[.string ((rd_T40 l0 x7_1).f0), .slice A208_1 ((rd_T40 l0 x7_1).f1).length c208_1, .slice A208_2 ((rd_T40 l0 x7_1).f2).length c208_2, .slice A208_3 ((rd_T40 l0 x7_1).f3).length c208_3] 40 (0, 0))) := ⟨by (with_reducible repeat (first | refine blk_drewN ?_ _ | refine blk_drew ?_ | refine blk_alloc ?_ _)); refine blk_put (cs := #[.string ((rd_T40 l0 x7_1).f0), .slice A208_1 ((rd_T40 l0 x7_1).f1).length c208_1, .slice A208_2 ((rd_T40 l0 x7_1).f2).length c208_2, .slice none 0 0]) ?_ 3 _ rfl; (with_reducible repeat (first | refine blk_drewN ?_ _ | refine blk_drew ?_ | refine blk_alloc ?_ _)); refine blk_put (cs := #[.string ((rd_T40 l0 x7_1).f0), .slice A208_1 ((rd_T40 l0 x7_1).f1).length c208_1, .slice none 0 0, .slice none 0 0]) ?_ 2 _ rfl; (with_reducible repeat (first | refine blk_drewN ?_ _ | refine blk_drew ?_ | refine blk_alloc ?_ _)); refine blk_put (cs := #[.string ((rd_T40 l0 x7_1).f0), .slice none 0 0, .slice none 0 0, .slice none 0 0]) ?_ 1 _ rfl; (with_reducible repeat (first | refine blk_drewN ?_ _ | refine blk_drew ?_ | refine blk_alloc ?_ _)); refine blk_put (cs := #[.string (⟨#[]⟩ : ByteArray), .slice none 0 0, .slice none 0 0, .slice none 0 0]) ?_ 0 _ rfl; (with_reducible repeat (first | refine blk_drewN ?_ _ | refine blk_drew ?_ | refine blk_alloc ?_ _)); exact BK209.out⟩
                    have n4_ : Aside0 (Below w.heap.size w ((((w14.setCell ⟨gb209, 0, none⟩ (.string ((rd_T40 l0 x7_1).f0))).setCell ⟨gb209, 1, none⟩ (.slice A208_1 ((rd_T40 l0 x7_1).f1).length c208_1)).setCell ⟨gb209, 2, none⟩ (.slice A208_2 ((rd_T40 l0 x7_1).f2).length c208_2)).setCell ⟨gb209, 3, none⟩ (.slice A208_3 ((rd_T40 l0 x7_1).f3).length c208_3))) := ⟨by repeat (first | (with_reducible first | exact HB.out | apply below_alloc | apply pw_below_drewN | apply below_drew1 | refine below_set ?_ GE204.out | refine below_set ?_ GE209.out) | exact HB.out)⟩
                    (try clear HO_205001)
                    (try clear HO_205002)
                    (try clear BK204)
                    (try clear BK209)
                    (try clear HB)
                    generalize ((((w14.setCell ⟨gb209, 0, none⟩ (.string ((rd_T40 l0 x7_1).f0))).setCell ⟨gb209, 1, none⟩ (.slice A208_1 ((rd_T40 l0 x7_1).f1).length c208_1)).setCell ⟨gb209, 2, none⟩ (.slice A208_2 ((rd_T40 l0 x7_1).f2).length c208_2)).setCell ⟨gb209, 3, none⟩ (.slice A208_3 ((rd_T40 l0 x7_1).f3).length c208_3)) = w21 at n0_ n1_ n2_ n3_ n4_ ⊢
                    have HO_205001 := n0_
                    have HO_205002 := n1_
                    have BK204 := n2_
                    have BK209 := n3_
                    have HB := n4_
                    clear n0_ n1_ n2_ n3_ n4_
                    have o_HO_205001 := HO_205001
                    have n0_ := Aside0.mk (Kd.R_drew HO_205001.out)
                    have o_HO_205002 := HO_205002
                    have n1_ := Aside0.mk (Kd.R_drew HO_205002.out)
                    have o_BK204 := BK204
                    have n2_ := Aside0.mk (blk_drew BK204.out)
                    have o_BK209 := BK209
                    have n3_ := Aside0.mk (blk_drew BK209.out)
                    have o_HB := HB
                    have n4_ := Aside0.mk (below_drew1 HB.out)
                    clear HO_205001
                    clear HO_205002
                    clear BK204
                    clear BK209
                    clear HB
                    have HO_205001 := n0_
                    have HO_205002 := n1_
                    have BK204 := n2_
                    have BK209 := n3_
                    have HB := n4_
                    clear n0_ n1_ n2_ n3_ n4_
                    refine start_ (n := 35) (S := fun w' => w'.cell? ⟨gb209, 0, none⟩ = some (.string ((rd_T40 l0 x7_1).f0)) ∧ w'.cell? ⟨gb209, 1, none⟩ = some (.slice A208_1 ((rd_T40 l0 x7_1).f1).length c208_1) ∧ w'.cell? ⟨gb209, 2, none⟩ = some (.slice A208_2 ((rd_T40 l0 x7_1).f2).length c208_2) ∧ w'.cell? ⟨gb209, 3, none⟩ = some (.slice A208_3 ((rd_T40 l0 x7_1).f3).length c208_3) ∧ w'.cell? ⟨gb204, 0, none⟩ = some (.string t196) ∧ w'.cell? ⟨gb204, 1, none⟩ = some (.slice Ao9 t197.length co9) ∧ w'.cell? ⟨gb204, 2, none⟩ = some (.slice Ao10 t200.length co10)) (ds := []) #[false, false, false, false, false, false, false, false, false, false, false, false, false, false, false, false, false, false, false, false, false, false, false, false, false, false, false, false, false, false, false, false, false, false, false] (by kernel_rfl) rfl rfl ⟨(blk_cell BK209.out 0).trans rfl, (blk_cell BK209.out 1).trans rfl, (blk_cell BK209.out 2).trans rfl, (blk_cell BK209.out 3).trans rfl, (blk_cell BK204.out 0).trans rfl, (blk_cell BK204.out 1).trans rfl, (blk_cell BK204.out 2).trans rfl⟩ (fun hHeld => ?_); refine with_tabW cotterlaw07_LinkKeeps.tab12 cotterlaw07_LinkKeeps.bits12 (fun HT_ HW_ => ?_)
                    first | (generalize hwd_ : w21.drewN _ = w22 at hHeld ⊢; obtain ⟨nN_, hn_⟩ : ∃ n_, w21.drewN n_ = w22 := ⟨_, hwd_⟩; clear HO_205001 HO_205002 BK204 BK209 HB; have HO_205001 := Aside0.mk (Kd.R_drewN o_HO_205001.out nN_); rw [hn_] at HO_205001; have HO_205002 := Aside0.mk (Kd.R_drewN o_HO_205002.out nN_); rw [hn_] at HO_205002; have BK204 := Aside0.mk (blk_drewN o_BK204.out nN_); rw [hn_] at BK204; have BK209 := Aside0.mk (blk_drewN o_BK209.out nN_); rw [hn_] at BK209; have HB := Aside0.mk (pw_below_drewN o_HB.out nN_); rw [hn_] at HB; clear hn_ hwd_) | generalize w21.drew = w22 at HO_205001 HO_205002 BK204 BK209 HB hHeld ⊢
                    refine pure_ (i := 0) (N := some 40) (v := ?_) (a' := ?_) #[true, false, false, false, false, false, false, false, false, false, false, false, false, false, false, false, false, false, false, false, false, false, false, false, false, false, false, false, false, false, false, false, false, false, false] rfl rfl (any_of HT_.out (by kernel_rfl)) (fun _ _ _ h => h) (Or.inl ⟨by rfl, ?_⟩) ?_ ?_
                    rotate_left
                    · intro w'
                      go_simp
                      with_reducible rfl
                    rotate_left
                    · simp only [Act.put, List.setIfInBounds_toArray, List.set_cons_zero, List.set_cons_succ, i64_w, i32_w]
                      rfl
                    refine pure_ (i := 1) (N := some 41) (v := ?_) (a' := ?_) #[true, true, false, false, false, false, false, false, false, false, false, false, false, false, false, false, false, false, false, false, false, false, false, false, false, false, false, false, false, false, false, false, false, false, false] rfl rfl (any_of HT_.out (by kernel_rfl)) (fun _ _ _ h => h) (Or.inl ⟨by rfl, ?_⟩) ?_ ?_
                    rotate_left
                    · intro w'
                      go_simp
                      with_reducible rfl
                    rotate_left
                    · simp only [Act.put, List.setIfInBounds_toArray, List.set_cons_zero, List.set_cons_succ, i64_w, i32_w]
                      rfl
                    refine pure_ (i := 5) (N := some 45) (v := ?_) (a' := ?_) #[true, true, false, false, false, true, false, false, false, false, false, false, false, false, false, false, false, false, false, false, false, false, false, false, false, false, false, false, false, false, false, false, false, false, false] rfl rfl (any_of HT_.out (by kernel_rfl)) (fun _ _ _ h => h) (Or.inl ⟨by rfl, ?_⟩) ?_ ?_
                    rotate_left
                    · intro w'
                      go_simp
                      with_reducible rfl
                    rotate_left
                    · simp only [Act.put, List.setIfInBounds_toArray, List.set_cons_zero, List.set_cons_succ, i64_w, i32_w]
                      rfl
                    refine take_ (i := 2) (N := some 42) (v := ?_) (a' := ?_) #[true, true, true, false, false, true, false, false, false, false, false, false, false, false, false, false, false, false, false, false, false, false, false, false, false, false, false, false, false, false, false, false, false, false, false] rfl rfl (take_ofW HT_.out HW_.out (by kernel_rfl)) (fun _ _ _ h => h) (Or.inl ⟨by rfl, ?_⟩) hHeld ?_ ?_
                    rotate_left
                    · rintro w' ⟨s0, s1, s2, s3, s4, s5, s6⟩
                      go_simp
                      with_reducible rfl
                    rotate_left
                    · simp only [Act.put, List.setIfInBounds_toArray, List.set_cons_zero, List.set_cons_succ, i64_w, i32_w]
                      rfl
                    refine pure_ (i := 3) (N := some 43) (v := ?_) (a' := ?_) #[true, true, true, true, false, true, false, false, false, false, false, false, false, false, false, false, false, false, false, false, false, false, false, false, false, false, false, false, false, false, false, false, false, false, false] rfl rfl (any_of HT_.out (by kernel_rfl)) (fun _ _ _ h => h) (Or.inl ⟨by rfl, ?_⟩) ?_ ?_
                    rotate_left
                    · intro w'
                      go_simp
                      with_reducible rfl
                    rotate_left
                    · simp only [Act.put, List.setIfInBounds_toArray, List.set_cons_zero, List.set_cons_succ, i64_w, i32_w]
                      rfl
                    refine pure_ (i := 4) (N := some 44) (v := ?_) (a' := ?_) #[true, true, true, true, true, true, false, false, false, false, false, false, false, false, false, false, false, false, false, false, false, false, false, false, false, false, false, false, false, false, false, false, false, false, false] rfl rfl (any_of HT_.out (by kernel_rfl)) (fun _ _ _ h => h) (Or.inl ⟨by rfl, ?_⟩) ?_ ?_
                    rotate_left
                    · intro w'
                      go_simp
                      with_reducible rfl
                    rotate_left
                    · simp only [Act.put, List.setIfInBounds_toArray, List.set_cons_zero, List.set_cons_succ, i64_w, i32_w]
                      rfl
                    refine take_ (i := 6) (N := some 46) (v := ?_) (a' := ?_) #[true, true, true, true, true, true, true, false, false, false, false, false, false, false, false, false, false, false, false, false, false, false, false, false, false, false, false, false, false, false, false, false, false, false, false] rfl rfl (take_ofW HT_.out HW_.out (by kernel_rfl)) (fun _ _ _ h => h) (Or.inl ⟨by rfl, ?_⟩) hHeld ?_ ?_
                    rotate_left
                    · rintro w' ⟨s0, s1, s2, s3, s4, s5, s6⟩
                      go_simp
                      with_reducible rfl
                    rotate_left
                    · simp only [Act.put, List.setIfInBounds_toArray, List.set_cons_zero, List.set_cons_succ, i64_w, i32_w]
                      rfl
                    refine pure_ (i := 7) (N := some 47) (v := ?_) (a' := ?_) #[true, true, true, true, true, true, true, true, false, false, false, false, false, false, false, false, false, false, false, false, false, false, false, false, false, false, false, false, false, false, false, false, false, false, false] rfl rfl (any_of HT_.out (by kernel_rfl)) (fun _ _ _ h => h) (Or.inl ⟨by rfl, ?_⟩) ?_ ?_
                    rotate_left
                    · intro w'
                      go_simp
                      with_reducible rfl
                    rotate_left
                    · simp only [Act.put, List.setIfInBounds_toArray, List.set_cons_zero, List.set_cons_succ, i64_w, i32_w]
                      rfl
                    refine pure_ (i := 8) (N := some 48) (v := ?_) (a' := ?_) #[true, true, true, true, true, true, true, true, true, false, false, false, false, false, false, false, false, false, false, false, false, false, false, false, false, false, false, false, false, false, false, false, false, false, false] rfl rfl (any_of HT_.out (by kernel_rfl)) (fun _ _ _ h => h) (Or.inl ⟨by rfl, ?_⟩) ?_ ?_
                    rotate_left
                    · intro w'
                      go_simp
                      with_reducible rfl
                    rotate_left
                    · simp only [Act.put, List.setIfInBounds_toArray, List.set_cons_zero, List.set_cons_succ, i64_w, i32_w]
                      rfl
                    refine pure_ (i := 9) (N := some 49) (v := ?_) (a' := ?_) #[true, true, true, true, true, true, true, true, true, true, false, false, false, false, false, false, false, false, false, false, false, false, false, false, false, false, false, false, false, false, false, false, false, false, false] rfl rfl (any_of HT_.out (by kernel_rfl)) (fun _ _ _ h => h) (Or.inl ⟨by rfl, ?_⟩) ?_ ?_
                    rotate_left
                    · intro w'
                      go_simp
                      with_reducible rfl
                    rotate_left
                    · simp only [Act.put, List.setIfInBounds_toArray, List.set_cons_zero, List.set_cons_succ, i64_w, i32_w]
                      rfl
                    refine pure_ (i := 10) (N := some 50) (v := ?_) (a' := ?_) #[true, true, true, true, true, true, true, true, true, true, true, false, false, false, false, false, false, false, false, false, false, false, false, false, false, false, false, false, false, false, false, false, false, false, false] rfl rfl (any_of HT_.out (by kernel_rfl)) (fun _ _ _ h => h) (Or.inl ⟨by rfl, ?_⟩) ?_ ?_
                    rotate_left
                    · intro w'
                      go_simp
                      with_reducible rfl
                    rotate_left
                    · simp only [Act.put, List.setIfInBounds_toArray, List.set_cons_zero, List.set_cons_succ, i64_w, i32_w]
                      rfl
                    refine pure_ (i := 11) (N := some 51) (v := ?_) (a' := ?_) #[true, true, true, true, true, true, true, true, true, true, true, true, false, false, false, false, false, false, false, false, false, false, false, false, false, false, false, false, false, false, false, false, false, false, false] rfl rfl (any_of HT_.out (by kernel_rfl)) (fun _ _ _ h => h) (Or.inl ⟨by rfl, ?_⟩) ?_ ?_
                    rotate_left
                    · intro w'
                      go_simp
                      with_reducible rfl
                    rotate_left
                    · simp only [Act.put, List.setIfInBounds_toArray, List.set_cons_zero, List.set_cons_succ, i64_w, i32_w]
                      rfl
                    refine pure_ (i := 15) (N := some 55) (v := ?_) (a' := ?_) #[true, true, true, true, true, true, true, true, true, true, true, true, false, false, false, true, false, false, false, false, false, false, false, false, false, false, false, false, false, false, false, false, false, false, false] rfl rfl (any_of HT_.out (by kernel_rfl)) (fun _ _ _ h => h) (Or.inl ⟨by rfl, ?_⟩) ?_ ?_
                    rotate_left
                    · intro w'
                      go_simp
                      with_reducible rfl
                    rotate_left
                    · simp only [Act.put, List.setIfInBounds_toArray, List.set_cons_zero, List.set_cons_succ, i64_w, i32_w]
                      rfl
                    refine take_ (i := 12) (N := some 52) (v := ?_) (a' := ?_) #[true, true, true, true, true, true, true, true, true, true, true, true, true, false, false, true, false, false, false, false, false, false, false, false, false, false, false, false, false, false, false, false, false, false, false] rfl rfl (take_ofW HT_.out HW_.out (by kernel_rfl)) (fun _ _ _ h => h) (Or.inl ⟨by rfl, ?_⟩) hHeld ?_ ?_
                    rotate_left
                    · rintro w' ⟨s0, s1, s2, s3, s4, s5, s6⟩
                      go_simp
                      with_reducible rfl
                    rotate_left
                    · simp only [Act.put, List.setIfInBounds_toArray, List.set_cons_zero, List.set_cons_succ, i64_w, i32_w]
                      rfl
                    refine pure_ (i := 13) (N := some 53) (v := ?_) (a' := ?_) #[true, true, true, true, true, true, true, true, true, true, true, true, true, true, false, true, false, false, false, false, false, false, false, false, false, false, false, false, false, false, false, false, false, false, false] rfl rfl (any_of HT_.out (by kernel_rfl)) (fun _ _ _ h => h) (Or.inl ⟨by rfl, ?_⟩) ?_ ?_
                    rotate_left
                    · intro w'
                      go_simp
                      with_reducible rfl
                    rotate_left
                    · simp only [Act.put, List.setIfInBounds_toArray, List.set_cons_zero, List.set_cons_succ, i64_w, i32_w]
                      rfl
                    refine pure_ (i := 14) (N := some 54) (v := ?_) (a' := ?_) #[true, true, true, true, true, true, true, true, true, true, true, true, true, true, true, true, false, false, false, false, false, false, false, false, false, false, false, false, false, false, false, false, false, false, false] rfl rfl (any_of HT_.out (by kernel_rfl)) (fun _ _ _ h => h) (Or.inl ⟨by rfl, ?_⟩) ?_ ?_
                    rotate_left
                    · intro w'
                      go_simp
                      with_reducible rfl
                    rotate_left
                    · simp only [Act.put, List.setIfInBounds_toArray, List.set_cons_zero, List.set_cons_succ, i64_w, i32_w]
                      rfl
                    refine take_ (i := 16) (N := some 56) (v := ?_) (a' := ?_) #[true, true, true, true, true, true, true, true, true, true, true, true, true, true, true, true, true, false, false, false, false, false, false, false, false, false, false, false, false, false, false, false, false, false, false] rfl rfl (take_ofW HT_.out HW_.out (by kernel_rfl)) (fun _ _ _ h => h) (Or.inl ⟨by rfl, ?_⟩) hHeld ?_ ?_
                    rotate_left
                    · rintro w' ⟨s0, s1, s2, s3, s4, s5, s6⟩
                      go_simp
                      with_reducible rfl
                    rotate_left
                    · simp only [Act.put, List.setIfInBounds_toArray, List.set_cons_zero, List.set_cons_succ, i64_w, i32_w]
                      rfl
                    refine pure_ (i := 17) (N := some 57) (v := ?_) (a' := ?_) #[true, true, true, true, true, true, true, true, true, true, true, true, true, true, true, true, true, true, false, false, false, false, false, false, false, false, false, false, false, false, false, false, false, false, false] rfl rfl (any_of HT_.out (by kernel_rfl)) (fun _ _ _ h => h) (Or.inl ⟨by rfl, ?_⟩) ?_ ?_
                    rotate_left
                    · intro w'
                      go_simp
                      with_reducible rfl
                    rotate_left
                    · simp only [Act.put, List.setIfInBounds_toArray, List.set_cons_zero, List.set_cons_succ, i64_w, i32_w]
                      rfl
                    refine pure_ (i := 18) (N := some 58) (v := ?_) (a' := ?_) #[true, true, true, true, true, true, true, true, true, true, true, true, true, true, true, true, true, true, true, false, false, false, false, false, false, false, false, false, false, false, false, false, false, false, false] rfl rfl (any_of HT_.out (by kernel_rfl)) (fun _ _ _ h => h) (Or.inl ⟨by rfl, ?_⟩) ?_ ?_
                    rotate_left
                    · intro w'
                      go_simp
                      with_reducible rfl
                    rotate_left
                    · simp only [Act.put, List.setIfInBounds_toArray, List.set_cons_zero, List.set_cons_succ, i64_w, i32_w]
                      rfl
                    refine pure_ (i := 19) (N := some 59) (v := ?_) (a' := ?_) #[true, true, true, true, true, true, true, true, true, true, true, true, true, true, true, true, true, true, true, true, false, false, false, false, false, false, false, false, false, false, false, false, false, false, false] rfl rfl (any_of HT_.out (by kernel_rfl)) (fun _ _ _ h => h) (Or.inl ⟨by rfl, ?_⟩) ?_ ?_
                    rotate_left
                    · intro w'
                      go_simp
                      with_reducible rfl
                    rotate_left
                    · simp only [Act.put, List.setIfInBounds_toArray, List.set_cons_zero, List.set_cons_succ, i64_w, i32_w]
                      rfl
                    refine pure_ (i := 20) (N := some 60) (v := ?_) (a' := ?_) #[true, true, true, true, true, true, true, true, true, true, true, true, true, true, true, true, true, true, true, true, true, false, false, false, false, false, false, false, false, false, false, false, false, false, false] rfl rfl (any_of HT_.out (by kernel_rfl)) (fun _ _ _ h => h) (Or.inl ⟨by rfl, ?_⟩) ?_ ?_
                    rotate_left
                    · intro w'
                      go_simp
                      with_reducible rfl
                    rotate_left
                    · simp only [Act.put, List.setIfInBounds_toArray, List.set_cons_zero, List.set_cons_succ, i64_w, i32_w]
                      rfl
                    refine pure_ (i := 21) (N := some 61) (v := undef) (a' := ?_) #[true, true, true, true, true, true, true, true, true, true, true, true, true, true, true, true, true, true, true, true, true, true, false, false, false, false, false, false, false, false, false, false, false, false, false] rfl rfl (any_of HT_.out (by kernel_rfl)) (fun _ _ _ h => h) (Or.inr ⟨by rfl, rfl⟩) ?_ ?_
                    rotate_left
                    · simp only [Act.put, List.setIfInBounds_toArray, List.set_cons_zero, List.set_cons_succ, i64_w, i32_w]
                      rfl
                    refine pure_ (i := 22) (N := some 62) (v := undef) (a' := ?_) #[true, true, true, true, true, true, true, true, true, true, true, true, true, true, true, true, true, true, true, true, true, true, true, false, false, false, false, false, false, false, false, false, false, false, false] rfl rfl (any_of HT_.out (by kernel_rfl)) (fun _ _ _ h => h) (Or.inr ⟨by rfl, rfl⟩) ?_ ?_
                    rotate_left
                    · simp only [Act.put, List.setIfInBounds_toArray, List.set_cons_zero, List.set_cons_succ, i64_w, i32_w]
                      rfl
                    refine pure_ (i := 23) (N := some 63) (v := undef) (a' := ?_) #[true, true, true, true, true, true, true, true, true, true, true, true, true, true, true, true, true, true, true, true, true, true, true, true, false, false, false, false, false, false, false, false, false, false, false] rfl rfl (any_of HT_.out (by kernel_rfl)) (fun _ _ _ h => h) (Or.inr ⟨by rfl, rfl⟩) ?_ ?_
                    rotate_left
                    · simp only [Act.put, List.setIfInBounds_toArray, List.set_cons_zero, List.set_cons_succ, i64_w, i32_w]
                      rfl
                    refine pure_ (i := 24) (N := some 64) (v := undef) (a' := ?_) #[true, true, true, true, true, true, true, true, true, true, true, true, true, true, true, true, true, true, true, true, true, true, true, true, true, false, false, false, false, false, false, false, false, false, false] rfl rfl (any_of HT_.out (by kernel_rfl)) (fun _ _ _ h => h) (Or.inr ⟨by rfl, rfl⟩) ?_ ?_
                    rotate_left
                    · simp only [Act.put, List.setIfInBounds_toArray, List.set_cons_zero, List.set_cons_succ, i64_w, i32_w]
                      rfl
                    refine pure_ (i := 25) (N := some 65) (v := undef) (a' := ?_) #[true, true, true, true, true, true, true, true, true, true, true, true, true, true, true, true, true, true, true, true, true, true, true, true, true, true, false, false, false, false, false, false, false, false, false] rfl rfl (any_of HT_.out (by kernel_rfl)) (fun _ _ _ h => h) (Or.inr ⟨by rfl, rfl⟩) ?_ ?_
                    rotate_left
                    · simp only [Act.put, List.setIfInBounds_toArray, List.set_cons_zero, List.set_cons_succ, i64_w, i32_w]
                      rfl
                    refine pure_ (i := 26) (N := some 66) (v := undef) (a' := ?_) #[true, true, true, true, true, true, true, true, true, true, true, true, true, true, true, true, true, true, true, true, true, true, true, true, true, true, true, false, false, false, false, false, false, false, false] rfl rfl (any_of HT_.out (by kernel_rfl)) (fun _ _ _ h => h) (Or.inr ⟨by rfl, rfl⟩) ?_ ?_
                    rotate_left
                    · simp only [Act.put, List.setIfInBounds_toArray, List.set_cons_zero, List.set_cons_succ, i64_w, i32_w]
                      rfl
                    refine pure_ (i := 27) (N := some 67) (v := undef) (a' := ?_) #[true, true, true, true, true, true, true, true, true, true, true, true, true, true, true, true, true, true, true, true, true, true, true, true, true, true, true, true, false, false, false, false, false, false, false] rfl rfl (any_of HT_.out (by kernel_rfl)) (fun _ _ _ h => h) (Or.inr ⟨by rfl, rfl⟩) ?_ ?_
                    rotate_left
                    · simp only [Act.put, List.setIfInBounds_toArray, List.set_cons_zero, List.set_cons_succ, i64_w, i32_w]
                      rfl
                    refine pure_ (i := 28) (N := some 68) (v := undef) (a' := ?_) #[true, true, true, true, true, true, true, true, true, true, true, true, true, true, true, true, true, true, true, true, true, true, true, true, true, true, true, true, true, false, false, false, false, false, false] rfl rfl (any_of HT_.out (by kernel_rfl)) (fun _ _ _ h => h) (Or.inr ⟨by rfl, rfl⟩) ?_ ?_
                    rotate_left
                    · simp only [Act.put, List.setIfInBounds_toArray, List.set_cons_zero, List.set_cons_succ, i64_w, i32_w]
                      rfl
                    refine pure_ (i := 29) (N := some 69) (v := undef) (a' := ?_) #[true, true, true, true, true, true, true, true, true, true, true, true, true, true, true, true, true, true, true, true, true, true, true, true, true, true, true, true, true, true, false, false, false, false, false] rfl rfl (any_of HT_.out (by kernel_rfl)) (fun _ _ _ h => h) (Or.inr ⟨by rfl, rfl⟩) ?_ ?_
                    rotate_left
                    · simp only [Act.put, List.setIfInBounds_toArray, List.set_cons_zero, List.set_cons_succ, i64_w, i32_w]
                      rfl
                    refine pure_ (i := 30) (N := some 70) (v := undef) (a' := ?_) #[true, true, true, true, true, true, true, true, true, true, true, true, true, true, true, true, true, true, true, true, true, true, true, true, true, true, true, true, true, true, true, false, false, false, false] rfl rfl (any_of HT_.out (by kernel_rfl)) (fun _ _ _ h => h) (Or.inr ⟨by rfl, rfl⟩) ?_ ?_
                    rotate_left
                    · simp only [Act.put, List.setIfInBounds_toArray, List.set_cons_zero, List.set_cons_succ, i64_w, i32_w]
                      rfl
                    refine pure_ (i := 31) (N := some 71) (v := undef) (a' := ?_) #[true, true, true, true, true, true, true, true, true, true, true, true, true, true, true, true, true, true, true, true, true, true, true, true, true, true, true, true, true, true, true, true, false, false, false] rfl rfl (any_of HT_.out (by kernel_rfl)) (fun _ _ _ h => h) (Or.inr ⟨by rfl, rfl⟩) ?_ ?_
                    rotate_left
                    · simp only [Act.put, List.setIfInBounds_toArray, List.set_cons_zero, List.set_cons_succ, i64_w, i32_w]
                      rfl
                    refine pure_ (i := 32) (N := some 72) (v := undef) (a' := ?_) #[true, true, true, true, true, true, true, true, true, true, true, true, true, true, true, true, true, true, true, true, true, true, true, true, true, true, true, true, true, true, true, true, true, false, false] rfl rfl (any_of HT_.out (by kernel_rfl)) (fun _ _ _ h => h) (Or.inr ⟨by rfl, rfl⟩) ?_ ?_
                    rotate_left
                    · simp only [Act.put, List.setIfInBounds_toArray, List.set_cons_zero, List.set_cons_succ, i64_w, i32_w]
                      rfl
                    refine pure_ (i := 33) (N := some 73) (v := undef) (a' := ?_) #[true, true, true, true, true, true, true, true, true, true, true, true, true, true, true, true, true, true, true, true, true, true, true, true, true, true, true, true, true, true, true, true, true, true, false] rfl rfl (any_of HT_.out (by kernel_rfl)) (fun _ _ _ h => h) (Or.inr ⟨by rfl, rfl⟩) ?_ ?_
                    rotate_left
                    · simp only [Act.put, List.setIfInBounds_toArray, List.set_cons_zero, List.set_cons_succ, i64_w, i32_w]
                      rfl
                    refine pure_ (i := 34) (N := some 74) (v := ?_) (a' := ?_) #[true, true, true, true, true, true, true, true, true, true, true, true, true, true, true, true, true, true, true, true, true, true, true, true, true, true, true, true, true, true, true, true, true, true, true] rfl rfl (any_of HT_.out (by kernel_rfl)) (fun _ _ _ h => h) (Or.inl ⟨by rfl, ?_⟩) ?_ ?_
                    rotate_left
                    · intro w'
                      go_simp
                      with_reducible rfl
                    rotate_left
                    · simp only [Act.put, List.setIfInBounds_toArray, List.set_cons_zero, List.set_cons_succ, i64_w, i32_w]
                      rfl
                    refine done_ (done_of HT_.out (by kernel_rfl)) ?_
                    try go_wp2
                    go_meet
                    case rel => exact ⟨_, (true), (by first | rfl | (simp; done) | (simp [*]; done)), H', ⟨by have := HK1.out; first | omega | exact Nat.le_refl _⟩, ⟨by (with_reducible repeat (first | apply Kd.R_alloc | apply Kd.R_drewN | apply Kd.R_drew)); exact HO_205001.out⟩, ⟨by (with_reducible repeat (first | apply Kd.R_alloc | apply Kd.R_drewN | apply Kd.R_drew)); exact HO_205002.out⟩, ⟨by (with_reducible repeat (first | refine blk_drewN ?_ _ | refine blk_drew ?_ | refine blk_alloc ?_ _)); exact BK204.out⟩, ⟨by (with_reducible repeat (first | refine blk_drewN ?_ _ | refine blk_drew ?_ | refine blk_alloc ?_ _)); exact BK209.out⟩, ⟨by repeat (first | (with_reducible first | exact HB.out | apply below_alloc | apply pw_below_drewN | apply below_drew1 | refine below_set ?_ GE204.out | refine below_set ?_ GE209.out) | exact HB.out)⟩⟩
                  · rw [if_neg c20] at H
                    have c20b0 : decide ((t197.length : Int) < (wrap64 (x6_1 + (((rd_T40 l0 x7_1).f1).length : Int)))) = false := decide_eq_false c20
                    clear c20
                    by_cases c23 : 0 ≤ x6_1
                    · rw [if_pos c23] at H
                      have c23b0 := eq_true c23
                      have c23b1 : decide (0 ≤ x6_1) = true := decide_eq_true c23
                      clear c23
                      by_cases c24 : x6_1 ≤ (wrap64 (x6_1 + (((rd_T40 l0 x7_1).f1).length : Int)))
                      · rw [if_pos c24] at H
                        have c24b0 := eq_true c24
                        have c24b1 : decide (x6_1 ≤ (wrap64 (x6_1 + (((rd_T40 l0 x7_1).f1).length : Int)))) = true := decide_eq_true c24
                        by_cases c25 : (wrap64 (x6_1 + (((rd_T40 l0 x7_1).f1).length : Int))) ≤ (t197.length : Int)
                        · rw [if_pos c25] at H
                          have c25b0 := eq_true c25
                          have c25b1 : decide ((wrap64 (x6_1 + (((rd_T40 l0 x7_1).f1).length : Int))) ≤ (t197.length : Int)) = true := decide_eq_true c25
                          (try simp only [hl208_1, hl208_2, hl208_3] at c25b1)
                          obtain ⟨y210, hy210⟩ : ∃ y_ : List Int, y_ = ((t197.take ((wrap64 (x6_1 + (((rd_T40 l0 x7_1).f1).length : Int))) : Int).toNat).drop (x6_1 : Int).toNat) := ⟨_, rfl⟩
                          replace H : ((cotterref06_SameData.f k1 y210 ((rd_T40 l0 x7_1).f1)).bind fun t214 => (cotterlaw07_LinkKeeps.j1 k1 l0 x5_1 x6_1 x7_1 (!t214) t196 t197 t200 ((rd_T40 l0 x7_1).f0) ((rd_T40 l0 x7_1).f1) ((rd_T40 l0 x7_1).f2) ((rd_T40 l0 x7_1).f3))) = some r := by first | (rw [hy210]; with_reducible exact H) | (have H2_ := (Option.bind_some _ _).symm.trans H; rw [hy210]; with_reducible exact H2_) | (have H2_ := (Option.bind_some _ _).symm.trans H; with_reducible exact H2_) | with_reducible exact H | (rw [hy210]; exact H) | exact H
                          have Ny210 := Aside0.mk hy210
                          clear hy210
                          replace H := Option.bind_eq_some_iff.mp H
                          obtain ⟨t214, A260, H⟩ := H
                          replace H : (cotterlaw07_LinkKeeps.j1 k1 l0 x5_1 x6_1 x7_1 (!t214) t196 t197 t200 ((rd_T40 l0 x7_1).f0) ((rd_T40 l0 x7_1).f1) ((rd_T40 l0 x7_1).f2) ((rd_T40 l0 x7_1).f3)) = some r := H
                          have A26 := Aside0.mk A260
                          clear A260
                          have H' := Aside0.mk H
                          clear H
                          try go_wp2
                          have n0_ : Aside0 (Kd.R (Kd.int .i64) 2 ((((w14.setCell ⟨gb209, 0, none⟩ (.string ((rd_T40 l0 x7_1).f0))).setCell ⟨gb209, 1, none⟩ (.slice A208_1 ((rd_T40 l0 x7_1).f1).length c208_1)).setCell ⟨gb209, 2, none⟩ (.slice A208_2 ((rd_T40 l0 x7_1).f2).length c208_2)).setCell ⟨gb209, 3, none⟩ (.slice A208_3 ((rd_T40 l0 x7_1).f3).length c208_3)) w.heap.size (fun _ => True) (.slice Ao9 t197.length co9) t197) := ⟨by (with_reducible repeat (first | apply Kd.R_alloc | apply Kd.R_drewN | apply Kd.R_drew)); exact Kd.R_mono (Kd.R_far (p := ⟨gb209, 3, none⟩) (Kd.R_far (p := ⟨gb209, 2, none⟩) (Kd.R_far (p := ⟨gb209, 1, none⟩) (Kd.R_far (p := ⟨gb209, 0, none⟩) (Kd.R_types HO_205001.out BK209.out (by decide)) (fun _ hk => hk.2) (.string ((rd_T40 l0 x7_1).f0))) (fun _ hk => hk.2) (.slice A208_1 ((rd_T40 l0 x7_1).f1).length c208_1)) (fun _ hk => hk.2) (.slice A208_2 ((rd_T40 l0 x7_1).f2).length c208_2)) (fun _ hk => hk.2) (.slice A208_3 ((rd_T40 l0 x7_1).f3).length c208_3)) (fun _ hk => trivial)⟩
                          have n1_ : Aside0 (Kd.R k36 36 ((((w14.setCell ⟨gb209, 0, none⟩ (.string ((rd_T40 l0 x7_1).f0))).setCell ⟨gb209, 1, none⟩ (.slice A208_1 ((rd_T40 l0 x7_1).f1).length c208_1)).setCell ⟨gb209, 2, none⟩ (.slice A208_2 ((rd_T40 l0 x7_1).f2).length c208_2)).setCell ⟨gb209, 3, none⟩ (.slice A208_3 ((rd_T40 l0 x7_1).f3).length c208_3)) w.heap.size (fun _ => True) (.slice Ao10 t200.length co10) t200) := ⟨by (with_reducible repeat (first | apply Kd.R_alloc | apply Kd.R_drewN | apply Kd.R_drew)); exact Kd.R_mono (Kd.R_far (p := ⟨gb209, 3, none⟩) (Kd.R_far (p := ⟨gb209, 2, none⟩) (Kd.R_far (p := ⟨gb209, 1, none⟩) (Kd.R_far (p := ⟨gb209, 0, none⟩) (Kd.R_types HO_205002.out BK209.out (by decide)) (fun _ hk => hk.2) (.string ((rd_T40 l0 x7_1).f0))) (fun _ hk => hk.2) (.slice A208_1 ((rd_T40 l0 x7_1).f1).length c208_1)) (fun _ hk => hk.2) (.slice A208_2 ((rd_T40 l0 x7_1).f2).length c208_2)) (fun _ hk => hk.2) (.slice A208_3 ((rd_T40 l0 x7_1).f3).length c208_3)) (fun _ hk => trivial)⟩
                          have n2_ : Aside0 (((((w14.setCell ⟨gb209, 0, none⟩ (.string ((rd_T40 l0 x7_1).f0))).setCell ⟨gb209, 1, none⟩ (.slice A208_1 ((rd_T40 l0 x7_1).f1).length c208_1)).setCell ⟨gb209, 2, none⟩ (.slice A208_2 ((rd_T40 l0 x7_1).f2).length c208_2)).setCell ⟨gb209, 3, none⟩ (.slice A208_3 ((rd_T40 l0 x7_1).f3).length c208_3)).heap[gb204]? = some (.cells #[.string t196, .slice Ao9 t197.length co9, .slice Ao10 t200.length co10] 29 (0, 0))) := ⟨by (with_reducible repeat (first | refine blk_drewN ?_ _ | refine blk_drew ?_ | refine blk_alloc ?_ _)); refine blk_far ?_ NB204_209.out _; (with_reducible repeat (first | refine blk_drewN ?_ _ | refine blk_drew ?_ | refine blk_alloc ?_ _)); refine blk_far ?_ NB204_209.out _; (with_reducible repeat (first | refine blk_drewN ?_ _ | refine blk_drew ?_ | refine blk_alloc ?_ _)); refine blk_far ?_ NB204_209.out _; (with_reducible repeat (first | refine blk_drewN ?_ _ | refine blk_drew ?_ | refine blk_alloc ?_ _)); refine blk_far ?_ NB204_209.out _; (with_reducible repeat (first | refine blk_drewN ?_ _ | refine blk_drew ?_ | refine blk_alloc ?_ _)); exact BK204.out⟩
                          have n3_ : Aside0 (((((w14.setCell ⟨gb209, 0, none⟩ (.string ((rd_T40 l0 x7_1).f0))).setCell ⟨gb209, 1, none⟩ (.slice A208_1 ((rd_T40 l0 x7_1).f1).length c208_1)).setCell ⟨gb209, 2, none⟩ (.slice A208_2 ((rd_T40 l0 x7_1).f2).length c208_2)).setCell ⟨gb209, 3, none⟩ (.slice A208_3 ((rd_T40 l0 x7_1).f3).length c208_3)).heap[gb209]? = some (.cells #[.string ((rd_T40 l0 x7_1).f0), .slice A208_1 ((rd_T40 l0 x7_1).f1).length c208_1, .slice A208_2 ((rd_T40 l0 x7_1).f2).length c208_2, .slice A208_3 ((rd_T40 l0 x7_1).f3).length c208_3] 40 (0, 0))) := ⟨by (with_reducible repeat (first | refine blk_drewN ?_ _ | refine blk_drew ?_ | refine blk_alloc ?_ _)); refine blk_put (cs := #[.string ((rd_T40 l0 x7_1).f0), .slice A208_1 ((rd_T40 l0 x7_1).f1).length c208_1, .slice A208_2 ((rd_T40 l0 x7_1).f2).length c208_2, .slice none 0 0]) ?_ 3 _ rfl; (with_reducible repeat (first | refine blk_drewN ?_ _ | refine blk_drew ?_ | refine blk_alloc ?_ _)); refine blk_put (cs := #[.string ((rd_T40 l0 x7_1).f0), .slice A208_1 ((rd_T40 l0 x7_1).f1).length c208_1, .slice none 0 0, .slice none 0 0]) ?_ 2 _ rfl; (with_reducible repeat (first | refine blk_drewN ?_ _ | refine blk_drew ?_ | refine blk_alloc ?_ _)); refine blk_put (cs := #[.string ((rd_T40 l0 x7_1).f0), .slice none 0 0, .slice none 0 0, .slice none 0 0]) ?_ 1 _ rfl; (with_reducible repeat (first | refine blk_drewN ?_ _ | refine blk_drew ?_ | refine blk_alloc ?_ _)); refine blk_put (cs := #[.string (⟨#[]⟩ : ByteArray), .slice none 0 0, .slice none 0 0, .slice none 0 0]) ?_ 0 _ rfl; (with_reducible repeat (first | refine blk_drewN ?_ _ | refine blk_drew ?_ | refine blk_alloc ?_ _)); exact BK209.out⟩
                          have n4_ : Aside0 (Below w.heap.size w ((((w14.setCell ⟨gb209, 0, none⟩ (.string ((rd_T40 l0 x7_1).f0))).setCell ⟨gb209, 1, none⟩ (.slice A208_1 ((rd_T40 l0 x7_1).f1).length c208_1)).setCell ⟨gb209, 2, none⟩ (.slice A208_2 ((rd_T40 l0 x7_1).f2).length c208_2)).setCell ⟨gb209, 3, none⟩ (.slice A208_3 ((rd_T40 l0 x7_1).f3).length c208_3))) := ⟨by repeat (first | (with_reducible first | exact HB.out | apply below_alloc | apply pw_below_drewN | apply below_drew1 | refine below_set ?_ GE204.out | refine below_set ?_ GE209.out) | exact HB.out)⟩
                          (try clear HO_205001)
                          (try clear HO_205002)
                          (try clear BK204)
                          (try clear BK209)
                          (try clear HB)
                          generalize ((((w14.setCell ⟨gb209, 0, none⟩ (.string ((rd_T40 l0 x7_1).f0))).setCell ⟨gb209, 1, none⟩ (.slice A208_1 ((rd_T40 l0 x7_1).f1).length c208_1)).setCell ⟨gb209, 2, none⟩ (.slice A208_2 ((rd_T40 l0 x7_1).f2).length c208_2)).setCell ⟨gb209, 3, none⟩ (.slice A208_3 ((rd_T40 l0 x7_1).f3).length c208_3)) = w27 at n0_ n1_ n2_ n3_ n4_ ⊢
                          have HO_205001 := n0_
                          have HO_205002 := n1_
                          have BK204 := n2_
                          have BK209 := n3_
                          have HB := n4_
                          clear n0_ n1_ n2_ n3_ n4_
                          have o_HO_205001 := HO_205001
                          have n0_ := Aside0.mk (Kd.R_drew HO_205001.out)
                          have o_HO_205002 := HO_205002
                          have n1_ := Aside0.mk (Kd.R_drew HO_205002.out)
                          have o_BK204 := BK204
                          have n2_ := Aside0.mk (blk_drew BK204.out)
                          have o_BK209 := BK209
                          have n3_ := Aside0.mk (blk_drew BK209.out)
                          have o_HB := HB
                          have n4_ := Aside0.mk (below_drew1 HB.out)
                          clear HO_205001
                          clear HO_205002
                          clear BK204
                          clear BK209
                          clear HB
                          have HO_205001 := n0_
                          have HO_205002 := n1_
                          have BK204 := n2_
                          have BK209 := n3_
                          have HB := n4_
                          clear n0_ n1_ n2_ n3_ n4_
                          have q29 : ((wrap64 (x6_1 + (((rd_T40 l0 x7_1).f1).length : Int))) : Int) ≤ ((t197.length : Int) : Int) := of_decide_eq_true (by first | (with_reducible assumption) | assumption)
                          obtain ⟨i029, hi029, _, hsz29, _⟩ := info_parts info2
                          have hroom29 : t197.length ≤ co9 := (Kd.R_reads' HO_205001.out).2.1
                          have hC29 : Kd.C (Kd.int .i64) _ Ao9 t197.length t197 := (Kd.R_reads' HO_205001.out).2.2
                          have ql29 : (x6_1 : Int) ≤ ((wrap64 (x6_1 + (((rd_T40 l0 x7_1).f1).length : Int))) : Int) := of_decide_eq_true (by first | (with_reducible assumption) | assumption)
                          have q029 : (0 : Int) ≤ (x6_1 : Int) := of_decide_eq_true (by first | (with_reducible assumption) | assumption)
                          have hcut29 := cut_mid (P := Try.prog) 26 2 .i64 .i64 Try.underlying26 hi029 1 hsz29 Ao9 t197.length co9 x6_1 (wrap64 (x6_1 + (((rd_T40 l0 x7_1).f1).length : Int))) q029 ql29 q29 hroom29
                          have hr29 := Kd.C_mid (lo := (x6_1 : Int).toNat) (hi := ((wrap64 (x6_1 + (((rd_T40 l0 x7_1).f1).length : Int))) : Int).toNat) (c := co9) hC29 (by omega) (by omega) hroom29
                          obtain ⟨A29, hA29⟩ : ∃ A1, A1 = (if co9 = (x6_1 : Int).toNat then Ao9 else (Ao9 : Option Addr).map (·.add ((x6_1 : Int).toNat * 1))) := ⟨_, rfl⟩
                          obtain ⟨c29, hc29⟩ : ∃ c1, c1 = co9 - (x6_1 : Int).toNat := ⟨_, rfl⟩
                          have hy29 : y210.length = ((wrap64 (x6_1 + (((rd_T40 l0 x7_1).f1).length : Int))) : Int).toNat - (x6_1 : Int).toNat := (by rw [Ny210.out, List.length_drop, List.length_take] <;> omega)
                          rw [show ((t197).take ((wrap64 (x6_1 + (((rd_T40 l0 x7_1).f1).length : Int))) : Int).toNat).drop (x6_1 : Int).toNat = y210 from Ny210.out.symm] at hr29
                          replace hr29 : Kd.C (Kd.int .i64) _ A29 y210.length y210 := (by rw [hA29]; exact hr29)
                          rw [← hy29, ← hA29, ← hc29] at hcut29
                          have HR213 := Aside0.mk hr29
                          have HC213 := Aside0.mk (show y210.length ≤ c29 from by rw [hy29, hc29]; exact Nat.sub_le_sub_right (Nat.le_trans (by omega) hroom29) _)
                          clear hr29 hC29 hroom29 hi029 hsz29 hc29
                          have KY29 := Aside0.mk hy29
                          have KA29 := Aside0.mk hA29
                          clear hy29 hA29
                          have KL29 := Aside0.mk (show ((wrap64 (x6_1 + (((rd_T40 l0 x7_1).f1).length : Int))) : Int).toNat ≤ t197.length from by omega)
                          have KM29 := Aside0.mk (show (x6_1 : Int).toNat ≤ ((wrap64 (x6_1 + (((rd_T40 l0 x7_1).f1).length : Int))) : Int).toNat from by omega)
                          replace q29 := eq_true q29
                          refine start_ (n := 35) (S := fun w' => w'.cell? ⟨gb209, 0, none⟩ = some (.string ((rd_T40 l0 x7_1).f0)) ∧ w'.cell? ⟨gb209, 1, none⟩ = some (.slice A208_1 ((rd_T40 l0 x7_1).f1).length c208_1) ∧ w'.cell? ⟨gb209, 2, none⟩ = some (.slice A208_2 ((rd_T40 l0 x7_1).f2).length c208_2) ∧ w'.cell? ⟨gb209, 3, none⟩ = some (.slice A208_3 ((rd_T40 l0 x7_1).f3).length c208_3) ∧ w'.cell? ⟨gb204, 0, none⟩ = some (.string t196) ∧ w'.cell? ⟨gb204, 1, none⟩ = some (.slice Ao9 t197.length co9) ∧ w'.cell? ⟨gb204, 2, none⟩ = some (.slice Ao10 t200.length co10)) (ds := []) #[false, false, false, false, false, false, false, false, false, false, false, false, false, false, false, false, false, false, false, false, false, false, false, false, false, false, false, false, false, false, false, false, false, false, false] (by kernel_rfl) rfl rfl ⟨(blk_cell BK209.out 0).trans rfl, (blk_cell BK209.out 1).trans rfl, (blk_cell BK209.out 2).trans rfl, (blk_cell BK209.out 3).trans rfl, (blk_cell BK204.out 0).trans rfl, (blk_cell BK204.out 1).trans rfl, (blk_cell BK204.out 2).trans rfl⟩ (fun hHeld => ?_); refine with_tabW cotterlaw07_LinkKeeps.tab12 cotterlaw07_LinkKeeps.bits12 (fun HT_ HW_ => ?_)
                          generalize w27.drew = w28 at HO_205001 HO_205002 BK204 BK209 HB HR213 hHeld ⊢
                          refine pure_ (i := 0) (N := some 40) (v := ?_) (a' := ?_) #[true, false, false, false, false, false, false, false, false, false, false, false, false, false, false, false, false, false, false, false, false, false, false, false, false, false, false, false, false, false, false, false, false, false, false] rfl rfl (any_of HT_.out (by kernel_rfl)) (fun _ _ _ h => h) (Or.inl ⟨by rfl, ?_⟩) ?_ ?_
                          rotate_left
                          · intro w'
                            go_simp
                            with_reducible rfl
                          rotate_left
                          · simp only [Act.put, List.setIfInBounds_toArray, List.set_cons_zero, List.set_cons_succ, i64_w, i32_w]
                            rfl
                          refine pure_ (i := 1) (N := some 41) (v := ?_) (a' := ?_) #[true, true, false, false, false, false, false, false, false, false, false, false, false, false, false, false, false, false, false, false, false, false, false, false, false, false, false, false, false, false, false, false, false, false, false] rfl rfl (any_of HT_.out (by kernel_rfl)) (fun _ _ _ h => h) (Or.inl ⟨by rfl, ?_⟩) ?_ ?_
                          rotate_left
                          · intro w'
                            go_simp
                            with_reducible rfl
                          rotate_left
                          · simp only [Act.put, List.setIfInBounds_toArray, List.set_cons_zero, List.set_cons_succ, i64_w, i32_w]
                            rfl
                          refine pure_ (i := 5) (N := some 45) (v := ?_) (a' := ?_) #[true, true, false, false, false, true, false, false, false, false, false, false, false, false, false, false, false, false, false, false, false, false, false, false, false, false, false, false, false, false, false, false, false, false, false] rfl rfl (any_of HT_.out (by kernel_rfl)) (fun _ _ _ h => h) (Or.inl ⟨by rfl, ?_⟩) ?_ ?_
                          rotate_left
                          · intro w'
                            go_simp
                            with_reducible rfl
                          rotate_left
                          · simp only [Act.put, List.setIfInBounds_toArray, List.set_cons_zero, List.set_cons_succ, i64_w, i32_w]
                            rfl
                          refine take_ (i := 2) (N := some 42) (v := ?_) (a' := ?_) #[true, true, true, false, false, true, false, false, false, false, false, false, false, false, false, false, false, false, false, false, false, false, false, false, false, false, false, false, false, false, false, false, false, false, false] rfl rfl (take_ofW HT_.out HW_.out (by kernel_rfl)) (fun _ _ _ h => h) (Or.inl ⟨by rfl, ?_⟩) hHeld ?_ ?_
                          rotate_left
                          · rintro w' ⟨s0, s1, s2, s3, s4, s5, s6⟩
                            go_simp
                            with_reducible rfl
                          rotate_left
                          · simp only [Act.put, List.setIfInBounds_toArray, List.set_cons_zero, List.set_cons_succ, i64_w, i32_w]
                            rfl
                          refine pure_ (i := 3) (N := some 43) (v := ?_) (a' := ?_) #[true, true, true, true, false, true, false, false, false, false, false, false, false, false, false, false, false, false, false, false, false, false, false, false, false, false, false, false, false, false, false, false, false, false, false] rfl rfl (any_of HT_.out (by kernel_rfl)) (fun _ _ _ h => h) (Or.inl ⟨by rfl, ?_⟩) ?_ ?_
                          rotate_left
                          · intro w'
                            go_simp
                            with_reducible rfl
                          rotate_left
                          · simp only [Act.put, List.setIfInBounds_toArray, List.set_cons_zero, List.set_cons_succ, i64_w, i32_w]
                            rfl
                          refine pure_ (i := 4) (N := some 44) (v := ?_) (a' := ?_) #[true, true, true, true, true, true, false, false, false, false, false, false, false, false, false, false, false, false, false, false, false, false, false, false, false, false, false, false, false, false, false, false, false, false, false] rfl rfl (any_of HT_.out (by kernel_rfl)) (fun _ _ _ h => h) (Or.inl ⟨by rfl, ?_⟩) ?_ ?_
                          rotate_left
                          · intro w'
                            go_simp
                            with_reducible rfl
                          rotate_left
                          · simp only [Act.put, List.setIfInBounds_toArray, List.set_cons_zero, List.set_cons_succ, i64_w, i32_w]
                            rfl
                          refine take_ (i := 6) (N := some 46) (v := ?_) (a' := ?_) #[true, true, true, true, true, true, true, false, false, false, false, false, false, false, false, false, false, false, false, false, false, false, false, false, false, false, false, false, false, false, false, false, false, false, false] rfl rfl (take_ofW HT_.out HW_.out (by kernel_rfl)) (fun _ _ _ h => h) (Or.inl ⟨by rfl, ?_⟩) hHeld ?_ ?_
                          rotate_left
                          · rintro w' ⟨s0, s1, s2, s3, s4, s5, s6⟩
                            go_simp
                            with_reducible rfl
                          rotate_left
                          · simp only [Act.put, List.setIfInBounds_toArray, List.set_cons_zero, List.set_cons_succ, i64_w, i32_w]
                            rfl
                          refine pure_ (i := 7) (N := some 47) (v := ?_) (a' := ?_) #[true, true, true, true, true, true, true, true, false, false, false, false, false, false, false, false, false, false, false, false, false, false, false, false, false, false, false, false, false, false, false, false, false, false, false] rfl rfl (any_of HT_.out (by kernel_rfl)) (fun _ _ _ h => h) (Or.inl ⟨by rfl, ?_⟩) ?_ ?_
                          rotate_left
                          · intro w'
                            go_simp
                            with_reducible rfl
                          rotate_left
                          · simp only [Act.put, List.setIfInBounds_toArray, List.set_cons_zero, List.set_cons_succ, i64_w, i32_w]
                            rfl
                          refine pure_ (i := 8) (N := some 48) (v := ?_) (a' := ?_) #[true, true, true, true, true, true, true, true, true, false, false, false, false, false, false, false, false, false, false, false, false, false, false, false, false, false, false, false, false, false, false, false, false, false, false] rfl rfl (any_of HT_.out (by kernel_rfl)) (fun _ _ _ h => h) (Or.inl ⟨by rfl, ?_⟩) ?_ ?_
                          rotate_left
                          · intro w'
                            go_simp
                            with_reducible rfl
                          rotate_left
                          · simp only [Act.put, List.setIfInBounds_toArray, List.set_cons_zero, List.set_cons_succ, i64_w, i32_w]
                            rfl
                          refine pure_ (i := 9) (N := some 49) (v := ?_) (a' := ?_) #[true, true, true, true, true, true, true, true, true, true, false, false, false, false, false, false, false, false, false, false, false, false, false, false, false, false, false, false, false, false, false, false, false, false, false] rfl rfl (any_of HT_.out (by kernel_rfl)) (fun _ _ _ h => h) (Or.inl ⟨by rfl, ?_⟩) ?_ ?_
                          rotate_left
                          · intro w'
                            go_simp
                            with_reducible rfl
                          rotate_left
                          · simp only [Act.put, List.setIfInBounds_toArray, List.set_cons_zero, List.set_cons_succ, i64_w, i32_w]
                            rfl
                          refine pure_ (i := 10) (N := some 50) (v := ?_) (a' := ?_) #[true, true, true, true, true, true, true, true, true, true, true, false, false, false, false, false, false, false, false, false, false, false, false, false, false, false, false, false, false, false, false, false, false, false, false] rfl rfl (any_of HT_.out (by kernel_rfl)) (fun _ _ _ h => h) (Or.inl ⟨by rfl, ?_⟩) ?_ ?_
                          rotate_left
                          · intro w'
                            go_simp
                            with_reducible rfl
                          rotate_left
                          · simp only [Act.put, List.setIfInBounds_toArray, List.set_cons_zero, List.set_cons_succ, i64_w, i32_w]
                            rfl
                          refine pure_ (i := 11) (N := some 51) (v := ?_) (a' := ?_) #[true, true, true, true, true, true, true, true, true, true, true, true, false, false, false, false, false, false, false, false, false, false, false, false, false, false, false, false, false, false, false, false, false, false, false] rfl rfl (any_of HT_.out (by kernel_rfl)) (fun _ _ _ h => h) (Or.inl ⟨by rfl, ?_⟩) ?_ ?_
                          rotate_left
                          · intro w'
                            go_simp
                            with_reducible rfl
                          rotate_left
                          · simp only [Act.put, List.setIfInBounds_toArray, List.set_cons_zero, List.set_cons_succ, i64_w, i32_w]
                            rfl
                          refine pure_ (i := 15) (N := some 55) (v := ?_) (a' := ?_) #[true, true, true, true, true, true, true, true, true, true, true, true, false, false, false, true, false, false, false, false, false, false, false, false, false, false, false, false, false, false, false, false, false, false, false] rfl rfl (any_of HT_.out (by kernel_rfl)) (fun _ _ _ h => h) (Or.inl ⟨by rfl, ?_⟩) ?_ ?_
                          rotate_left
                          · intro w'
                            go_simp
                            with_reducible rfl
                          rotate_left
                          · simp only [Act.put, List.setIfInBounds_toArray, List.set_cons_zero, List.set_cons_succ, i64_w, i32_w]
                            rfl
                          refine take_ (i := 12) (N := some 52) (v := ?_) (a' := ?_) #[true, true, true, true, true, true, true, true, true, true, true, true, true, false, false, true, false, false, false, false, false, false, false, false, false, false, false, false, false, false, false, false, false, false, false] rfl rfl (take_ofW HT_.out HW_.out (by kernel_rfl)) (fun _ _ _ h => h) (Or.inl ⟨by rfl, ?_⟩) hHeld ?_ ?_
                          rotate_left
                          · rintro w' ⟨s0, s1, s2, s3, s4, s5, s6⟩
                            go_simp
                            with_reducible rfl
                          rotate_left
                          · simp only [Act.put, List.setIfInBounds_toArray, List.set_cons_zero, List.set_cons_succ, i64_w, i32_w]
                            rfl
                          refine pure_ (i := 13) (N := some 53) (v := ?_) (a' := ?_) #[true, true, true, true, true, true, true, true, true, true, true, true, true, true, false, true, false, false, false, false, false, false, false, false, false, false, false, false, false, false, false, false, false, false, false] rfl rfl (any_of HT_.out (by kernel_rfl)) (fun _ _ _ h => h) (Or.inl ⟨by rfl, ?_⟩) ?_ ?_
                          rotate_left
                          · intro w'
                            go_simp
                            with_reducible rfl
                          rotate_left
                          · simp only [Act.put, List.setIfInBounds_toArray, List.set_cons_zero, List.set_cons_succ, i64_w, i32_w]
                            rfl
                          refine pure_ (i := 14) (N := some 54) (v := ?_) (a' := ?_) #[true, true, true, true, true, true, true, true, true, true, true, true, true, true, true, true, false, false, false, false, false, false, false, false, false, false, false, false, false, false, false, false, false, false, false] rfl rfl (any_of HT_.out (by kernel_rfl)) (fun _ _ _ h => h) (Or.inl ⟨by rfl, ?_⟩) ?_ ?_
                          rotate_left
                          · intro w'
                            go_simp
                            with_reducible rfl
                          rotate_left
                          · simp only [Act.put, List.setIfInBounds_toArray, List.set_cons_zero, List.set_cons_succ, i64_w, i32_w]
                            rfl
                          refine take_ (i := 16) (N := some 56) (v := ?_) (a' := ?_) #[true, true, true, true, true, true, true, true, true, true, true, true, true, true, true, true, true, false, false, false, false, false, false, false, false, false, false, false, false, false, false, false, false, false, false] rfl rfl (take_ofW HT_.out HW_.out (by kernel_rfl)) (fun _ _ _ h => h) (Or.inl ⟨by rfl, ?_⟩) hHeld ?_ ?_
                          rotate_left
                          · rintro w' ⟨s0, s1, s2, s3, s4, s5, s6⟩
                            go_simp
                            with_reducible rfl
                          rotate_left
                          · simp only [Act.put, List.setIfInBounds_toArray, List.set_cons_zero, List.set_cons_succ, i64_w, i32_w]
                            rfl
                          refine pure_ (i := 17) (N := some 57) (v := ?_) (a' := ?_) #[true, true, true, true, true, true, true, true, true, true, true, true, true, true, true, true, true, true, false, false, false, false, false, false, false, false, false, false, false, false, false, false, false, false, false] rfl rfl (any_of HT_.out (by kernel_rfl)) (fun _ _ _ h => h) (Or.inl ⟨by rfl, ?_⟩) ?_ ?_
                          rotate_left
                          · intro w'
                            go_simp
                            with_reducible rfl
                          rotate_left
                          · simp only [Act.put, List.setIfInBounds_toArray, List.set_cons_zero, List.set_cons_succ, i64_w, i32_w]
                            rfl
                          refine pure_ (i := 18) (N := some 58) (v := ?_) (a' := ?_) #[true, true, true, true, true, true, true, true, true, true, true, true, true, true, true, true, true, true, true, false, false, false, false, false, false, false, false, false, false, false, false, false, false, false, false] rfl rfl (any_of HT_.out (by kernel_rfl)) (fun _ _ _ h => h) (Or.inl ⟨by rfl, ?_⟩) ?_ ?_
                          rotate_left
                          · intro w'
                            go_simp
                            with_reducible rfl
                          rotate_left
                          · simp only [Act.put, List.setIfInBounds_toArray, List.set_cons_zero, List.set_cons_succ, i64_w, i32_w]
                            rfl
                          refine pure_ (i := 19) (N := some 59) (v := ?_) (a' := ?_) #[true, true, true, true, true, true, true, true, true, true, true, true, true, true, true, true, true, true, true, true, false, false, false, false, false, false, false, false, false, false, false, false, false, false, false] rfl rfl (any_of HT_.out (by kernel_rfl)) (fun _ _ _ h => h) (Or.inl ⟨by rfl, ?_⟩) ?_ ?_
                          rotate_left
                          · intro w'
                            go_simp
                            with_reducible rfl
                          rotate_left
                          · simp only [Act.put, List.setIfInBounds_toArray, List.set_cons_zero, List.set_cons_succ, i64_w, i32_w]
                            rfl
                          refine pure_ (i := 20) (N := some 60) (v := ?_) (a' := ?_) #[true, true, true, true, true, true, true, true, true, true, true, true, true, true, true, true, true, true, true, true, true, false, false, false, false, false, false, false, false, false, false, false, false, false, false] rfl rfl (any_of HT_.out (by kernel_rfl)) (fun _ _ _ h => h) (Or.inl ⟨by rfl, ?_⟩) ?_ ?_
                          rotate_left
                          · intro w'
                            go_simp
                            with_reducible rfl
                          rotate_left
                          · simp only [Act.put, List.setIfInBounds_toArray, List.set_cons_zero, List.set_cons_succ, i64_w, i32_w]
                            rfl
                          refine pure_ (i := 21) (N := some 61) (v := ?_) (a' := ?_) #[true, true, true, true, true, true, true, true, true, true, true, true, true, true, true, true, true, true, true, true, true, true, false, false, false, false, false, false, false, false, false, false, false, false, false] rfl rfl (any_of HT_.out (by kernel_rfl)) (fun _ _ _ h => h) (Or.inl ⟨by rfl, ?_⟩) ?_ ?_
                          rotate_left
                          · intro w'
                            go_simp
                            with_reducible rfl
                          rotate_left
                          · simp only [Act.put, List.setIfInBounds_toArray, List.set_cons_zero, List.set_cons_succ, i64_w, i32_w]
                            rfl
                          refine pure_ (i := 23) (N := some 63) (v := ?_) (a' := ?_) #[true, true, true, true, true, true, true, true, true, true, true, true, true, true, true, true, true, true, true, true, true, true, false, true, false, false, false, false, false, false, false, false, false, false, false] rfl rfl (any_of HT_.out (by kernel_rfl)) (fun _ _ _ h => h) (Or.inl ⟨by rfl, ?_⟩) ?_ ?_
                          rotate_left
                          · intro w'
                            go_simp
                            with_reducible rfl
                          rotate_left
                          · simp only [Act.put, List.setIfInBounds_toArray, List.set_cons_zero, List.set_cons_succ, i64_w, i32_w]
                            rfl
                          refine pure_ (i := 24) (N := some 64) (v := ?_) (a' := ?_) #[true, true, true, true, true, true, true, true, true, true, true, true, true, true, true, true, true, true, true, true, true, true, false, true, true, false, false, false, false, false, false, false, false, false, false] rfl rfl (any_of HT_.out (by kernel_rfl)) (fun _ _ _ h => h) (Or.inl ⟨by rfl, ?_⟩) ?_ ?_
                          rotate_left
                          · intro w'
                            go_simp
                            with_reducible rfl
                          rotate_left
                          · simp only [Act.put, List.setIfInBounds_toArray, List.set_cons_zero, List.set_cons_succ, i64_w, i32_w]
                            rfl
                          refine pure_ (i := 25) (N := some 65) (v := ?_) (a' := ?_) #[true, true, true, true, true, true, true, true, true, true, true, true, true, true, true, true, true, true, true, true, true, true, false, true, true, true, false, false, false, false, false, false, false, false, false] rfl rfl (any_of HT_.out (by kernel_rfl)) (fun _ _ _ h => h) (Or.inl ⟨by rfl, ?_⟩) ?_ ?_
                          rotate_left
                          · intro w'
                            go_simp
                            with_reducible rfl
                          rotate_left
                          · simp only [Act.put, List.setIfInBounds_toArray, List.set_cons_zero, List.set_cons_succ, i64_w, i32_w]
                            rfl
                          refine pure_ (i := 30) (N := some 70) (v := ?_) (a' := ?_) #[true, true, true, true, true, true, true, true, true, true, true, true, true, true, true, true, true, true, true, true, true, true, false, true, true, true, false, false, false, false, true, false, false, false, false] rfl rfl (any_of HT_.out (by kernel_rfl)) (fun _ _ _ h => h) (Or.inl ⟨by rfl, ?_⟩) ?_ ?_
                          rotate_left
                          · intro w'
                            go_simp
                            with_reducible rfl
                          rotate_left
                          · simp only [Act.put, List.setIfInBounds_toArray, List.set_cons_zero, List.set_cons_succ, i64_w, i32_w]
                            rfl
                          refine take_ (i := 22) (N := some 62) (v := ?_) (a' := ?_) #[true, true, true, true, true, true, true, true, true, true, true, true, true, true, true, true, true, true, true, true, true, true, true, true, true, true, false, false, false, false, true, false, false, false, false] rfl rfl (take_ofW HT_.out HW_.out (by kernel_rfl)) (fun _ _ _ h => h) (Or.inl ⟨by rfl, ?_⟩) hHeld ?_ ?_
                          rotate_left
                          · rintro w' ⟨s0, s1, s2, s3, s4, s5, s6⟩
                            go_simp
                            with_reducible rfl
                          rotate_left
                          · simp only [Act.put, List.setIfInBounds_toArray, List.set_cons_zero, List.set_cons_succ, i64_w, i32_w]
                            rfl
                          refine take_ (i := 26) (N := some 66) (v := ?_) (a' := ?_) #[true, true, true, true, true, true, true, true, true, true, true, true, true, true, true, true, true, true, true, true, true, true, true, true, true, true, true, false, false, false, true, false, false, false, false] rfl rfl (take_ofW HT_.out HW_.out (by kernel_rfl)) (fun _ _ _ h => h) (Or.inl ⟨by rfl, ?_⟩) hHeld ?_ ?_
                          rotate_left
                          · rintro w' ⟨s0, s1, s2, s3, s4, s5, s6⟩
                            go_simp
                            with_reducible rfl
                          rotate_left
                          · simp only [Act.put, List.setIfInBounds_toArray, List.set_cons_zero, List.set_cons_succ, i64_w, i32_w]
                            rfl
                          refine pure_ (i := 27) (N := some 67) (v := ?_) (a' := ?_) #[true, true, true, true, true, true, true, true, true, true, true, true, true, true, true, true, true, true, true, true, true, true, true, true, true, true, true, true, false, false, true, false, false, false, false] rfl rfl (any_of HT_.out (by kernel_rfl)) (fun _ _ _ h => h) (Or.inl ⟨by rfl, ?_⟩) ?_ ?_
                          rotate_left
                          · intro w'
                            go_simp
                            with_reducible rfl
                          rotate_left
                          · simp only [Act.put, List.setIfInBounds_toArray, List.set_cons_zero, List.set_cons_succ, i64_w, i32_w]
                            rfl
                          refine pure_ (i := 28) (N := some 68) (v := ?_) (a' := ?_) #[true, true, true, true, true, true, true, true, true, true, true, true, true, true, true, true, true, true, true, true, true, true, true, true, true, true, true, true, true, false, true, false, false, false, false] rfl rfl (any_of HT_.out (by kernel_rfl)) (fun _ _ _ h => h) (Or.inl ⟨by rfl, ?_⟩) ?_ ?_
                          rotate_left
                          · intro w'
                            go_simp
                            with_reducible rfl
                          rotate_left
                          · simp only [Act.put, List.setIfInBounds_toArray, List.set_cons_zero, List.set_cons_succ, i64_w, i32_w]
                            rfl
                          refine pure_ (i := 29) (N := some 69) (v := ?_) (a' := ?_) #[true, true, true, true, true, true, true, true, true, true, true, true, true, true, true, true, true, true, true, true, true, true, true, true, true, true, true, true, true, true, true, false, false, false, false] rfl rfl (any_of HT_.out (by kernel_rfl)) (fun _ _ _ h => h) (Or.inl ⟨by rfl, ?_⟩) ?_ ?_
                          rotate_left
                          · intro w'
                            go_simp
                            with_reducible rfl
                          rotate_left
                          · simp only [Act.put, List.setIfInBounds_toArray, List.set_cons_zero, List.set_cons_succ, i64_w, i32_w]
                            rfl
                          refine take_ (i := 31) (N := some 71) (v := ?_) (a' := ?_) #[true, true, true, true, true, true, true, true, true, true, true, true, true, true, true, true, true, true, true, true, true, true, true, true, true, true, true, true, true, true, true, true, false, false, false] rfl rfl (take_ofW HT_.out HW_.out (by kernel_rfl)) (fun _ _ _ h => h) (Or.inl ⟨by rfl, ?_⟩) hHeld ?_ ?_
                          rotate_left
                          · rintro w' ⟨s0, s1, s2, s3, s4, s5, s6⟩
                            go_simp
                            with_reducible rfl
                          rotate_left
                          · simp only [Act.put, List.setIfInBounds_toArray, List.set_cons_zero, List.set_cons_succ, i64_w, i32_w]
                            rfl
                          refine one_ (i := 32) (N := some 72) #[true, true, true, true, true, true, true, true, true, true, true, true, true, true, true, true, true, true, true, true, true, true, true, true, true, true, true, true, true, true, true, true, true, false, false] rfl rfl (one_of HT_.out (by kernel_rfl)) (by decide) (fun K hK => ?_)
                          refine goes_ Try.func16 (by kernel_rfl) rfl #[.slice A29 y210.length c29, .slice A208_1 ((rd_T40 l0 x7_1).f1).length c208_1] (by rfl) rfl rfl (by (try simp only [List.map_toArray, List.map_cons, List.map_nil]); first | done | rfl | (simp only [List.length_drop, List.length_take]; rfl)) ?_
                          with_reducible refine (cotterref06_SameData.calls k1 _ _ y210 _ _ ((rd_T40 l0 x7_1).f1) t214 _ ?side1 ?side2 ?side3 ?side4 A26.out).mono ?_
                          (case side1 => repeat (first | exact (by repeat (first | (with_reducible exact HR213.out) | (with_reducible refine Kd.C_alloc ?_ _) | (with_reducible refine Kd.C_drewN ?_ _) | (with_reducible refine Kd.C_drew ?_) | exact HR213.out)) | (with_reducible refine Kd.C_alloc ?_ _) | (with_reducible refine Kd.C_drewN ?_ _) | (with_reducible refine Kd.C_drew ?_)))
                          (case side2 => exact HC213.out)
                          (case side3 => repeat (first | exact (Kd.C_below HR208_1.out HB.out) | (with_reducible refine Kd.C_alloc ?_ _) | (with_reducible refine Kd.C_drewN ?_ _) | (with_reducible refine Kd.C_drew ?_)))
                          (case side4 => exact HC208_1.out)
                          rintro e w' ⟨rfl, ⟨nd, rfl⟩⟩
                          refine ⟨_, rfl, ?_⟩
                          refine hK.out _ _ ⟨(blk_cell BK209.out 0).trans rfl, (blk_cell BK209.out 1).trans rfl, (blk_cell BK209.out 2).trans rfl, (blk_cell BK209.out 3).trans rfl, (blk_cell BK204.out 0).trans rfl, (blk_cell BK204.out 1).trans rfl, (blk_cell BK204.out 2).trans rfl⟩ (fun hHeld => ?_)
                          clear hK K
                          refine norm_ (a' := ?_) ?_ ?_
                          rotate_left
                          · show Act.put _ (some 72) _ = _
                            simp only [Act.put, List.setIfInBounds_toArray, List.set_cons_zero, List.set_cons_succ, i64_w, i32_w]
                            rfl
                          refine pure_ (i := 33) (N := some 73) (v := ?_) (a' := ?_) #[true, true, true, true, true, true, true, true, true, true, true, true, true, true, true, true, true, true, true, true, true, true, true, true, true, true, true, true, true, true, true, true, true, true, false] rfl rfl (any_of HT_.out (by kernel_rfl)) (fun _ _ _ h => h) (Or.inl ⟨by rfl, ?_⟩) ?_ ?_
                          rotate_left
                          · intro w'
                            go_simp
                            with_reducible rfl
                          rotate_left
                          · simp only [Act.put, List.setIfInBounds_toArray, List.set_cons_zero, List.set_cons_succ, i64_w, i32_w]
                            rfl
                          refine pure_ (i := 34) (N := some 74) (v := ?_) (a' := ?_) #[true, true, true, true, true, true, true, true, true, true, true, true, true, true, true, true, true, true, true, true, true, true, true, true, true, true, true, true, true, true, true, true, true, true, true] rfl rfl (any_of HT_.out (by kernel_rfl)) (fun _ _ _ h => h) (Or.inl ⟨by rfl, ?_⟩) ?_ ?_
                          rotate_left
                          · intro w'
                            go_simp
                            with_reducible rfl
                          rotate_left
                          · simp only [Act.put, List.setIfInBounds_toArray, List.set_cons_zero, List.set_cons_succ, i64_w, i32_w]
                            rfl
                          refine done_ (done_of HT_.out (by kernel_rfl)) ?_
                          try go_wp2
                          go_meet
                          case rel => exact ⟨_, (!t214), (by first | rfl | (simp; done) | (simp [*]; done)), H', ⟨by have := HK1.out; first | omega | exact Nat.le_refl _⟩, ⟨by (with_reducible repeat (first | apply Kd.R_alloc | apply Kd.R_drewN | apply Kd.R_drew)); exact HO_205001.out⟩, ⟨by (with_reducible repeat (first | apply Kd.R_alloc | apply Kd.R_drewN | apply Kd.R_drew)); exact HO_205002.out⟩, ⟨by (with_reducible repeat (first | refine blk_drewN ?_ _ | refine blk_drew ?_ | refine blk_alloc ?_ _)); exact BK204.out⟩, ⟨by (with_reducible repeat (first | refine blk_drewN ?_ _ | refine blk_drew ?_ | refine blk_alloc ?_ _)); exact BK209.out⟩, ⟨by repeat (first | (with_reducible first | exact HB.out | apply below_alloc | apply pw_below_drewN | apply below_drew1 | refine below_set ?_ GE204.out | refine below_set ?_ GE209.out) | exact HB.out)⟩⟩
                        · rw [if_neg c25] at H
                          exact absurd H (by simp)
                      · rw [if_neg c24] at H
                        exact absurd H (by simp)
                    · rw [if_neg c23] at H
                      exact absurd H (by simp)
              case rest =>
                clear HC13
                try clear c1
                try clear c2
                try clear p2
                try clear q2
                try clear p6
                try clear c16
                try clear c20
                try clear c20b0
                try clear c23
                try clear c23b0
                try clear c23b1
                try clear c24
                try clear c24b0
                try clear c24b1
                try clear c25
                try clear c25b0
                try clear c25b1
                try clear c29
                try clear q29
                try clear q029
                try clear q29
                obtain ⟨kq, x74_12, rfl, HA, HJ12, HO_205001, HO_205002, BK204, BK209, HB⟩ := hcut
                cases kq with
                | zero => exact absurd HA.out (by simp [cotterlaw07_LinkKeeps.j1])
                | succ kj12 =>
                  have H := HA.out
                  clear HA
                  simp only [cotterlaw07_LinkKeeps.j1] at H
                  by_cases c30 : x74_12 = true
                  · subst c30
                    have H1 : (some false) = some r := by rw [if_pos rfl] at H; exact H
                    clear H
                    have H := H1
                    clear H1
                    obtain rfl := Option.some.inj H
                    go_wp2
                    go_ret
                    exact ⟨by first | rfl | (simp [errW_none, errW_some] <;> rfl) | (simp [*, errW_none, errW_some] <;> rfl), by repeat (first | (with_reducible first | exact HB.out | apply below_alloc | apply pw_below_drewN | apply below_drew1 | refine below_set ?_ GE204.out | refine below_set ?_ GE209.out) | exact HB.out)⟩
                  · replace c30 := Bool.eq_false_iff.mpr c30
                    subst c30
                    have H1 : (if 0 ≤ (((rd_T40 l0 x7_1).f0).size : Int) then (if ((((rd_T40 l0 x7_1).f0).size : Int) : Int).toNat ≤ 281474976710656 then (cotterlaw07_LinkKeeps.l1 kj12 l0 x5_1 x6_1 x7_1 (List.replicate ((((rd_T40 l0 x7_1).f0).size : Int) : Int).toNat false) 0 t196 t197 t200 ((rd_T40 l0 x7_1).f0) ((rd_T40 l0 x7_1).f1) ((rd_T40 l0 x7_1).f2) ((rd_T40 l0 x7_1).f3)) else (none)) else (none)) = some r := by rw [if_neg (show ¬ (false = true) by decide)] at H; exact H
                    clear H
                    have H := H1
                    clear H1
                    by_cases c31 : 0 ≤ (((rd_T40 l0 x7_1).f0).size : Int)
                    · rw [if_pos c31] at H
                      have c31b0 := eq_true c31
                      have c31b1 : decide (0 ≤ (((rd_T40 l0 x7_1).f0).size : Int)) = true := decide_eq_true c31
                      clear c31
                      by_cases c32 : ((((rd_T40 l0 x7_1).f0).size : Int) : Int).toNat ≤ 281474976710656
                      · rw [if_pos c32] at H
                        have c32b0 := eq_true c32
                        have c32b1 : decide (((((rd_T40 l0 x7_1).f0).size : Int) : Int).toNat ≤ 281474976710656) = true := decide_eq_true c32
                        (try simp only [Int.toNat_natCast] at c32b1)
                        clear c32
                        obtain ⟨y215, hy215⟩ : ∃ y_ : List Bool, y_ = (List.replicate ((((rd_T40 l0 x7_1).f0).size : Int) : Int).toNat false) := ⟨_, rfl⟩
                        replace H : (cotterlaw07_LinkKeeps.l1 kj12 l0 x5_1 x6_1 x7_1 y215 0 t196 t197 t200 ((rd_T40 l0 x7_1).f0) ((rd_T40 l0 x7_1).f1) ((rd_T40 l0 x7_1).f2) ((rd_T40 l0 x7_1).f3)) = some r := by first | (rw [hy215]; with_reducible exact H) | (have H2_ := (Option.bind_some _ _).symm.trans H; rw [hy215]; with_reducible exact H2_) | (have H2_ := (Option.bind_some _ _).symm.trans H; with_reducible exact H2_) | with_reducible exact H | (rw [hy215]; exact H) | exact H
                        have Ny215 := Aside0.mk hy215
                        clear hy215
                        have H' := Aside0.mk H
                        clear H
                        have hnb33 := NB209_204.out
                        have hnc33 := NB204_209.out
                        have hcz34_0 : wc.cell? ⟨gb209, 0, none⟩ = some (.string ((rd_T40 l0 x7_1).f0)) := (blk_cell BK209.out 0).trans rfl
                        have hcz34_1 : wc.cell? ⟨gb209, 1, none⟩ = some (.slice A208_1 ((rd_T40 l0 x7_1).f1).length c208_1) := (blk_cell BK209.out 1).trans rfl
                        have hcz34_2 : wc.cell? ⟨gb209, 2, none⟩ = some (.slice A208_2 ((rd_T40 l0 x7_1).f2).length c208_2) := (blk_cell BK209.out 2).trans rfl
                        have hcz34_3 : wc.cell? ⟨gb209, 3, none⟩ = some (.slice A208_3 ((rd_T40 l0 x7_1).f3).length c208_3) := (blk_cell BK209.out 3).trans rfl
                        have hfz34_0 := blk_frozen BK209.out 0
                        have hfz34_1 := blk_frozen BK209.out 1
                        have hfz34_2 := blk_frozen BK209.out 2
                        have hfz34_3 := blk_frozen BK209.out 3
                        go_wp2_with (first | ((with_reducible refine gate_dst (N := 78) rfl ?_); (try (refine gate_guard (by rfl) ?_; dsimp only)); refine Kd.R_make Kd.bool _ 4 rfl (N := 78) rfl 43 _ _ rfl (((rd_T40 l0 x7_1).f0).size : Int) rfl rfl Try.underlying43 (.bool false) 1 info4 rfl (by decide) (by omega) false (ok := fun _ => True) (okp := fun _ => True) rfl (fun _ hk => hk) trivial (of_decide_eq_true (by first | (with_reducible assumption) | assumption)) (Nat.le_trans (Nat.mul_le_mul_right _ (of_decide_eq_true (by first | (with_reducible assumption) | assumption) : (((rd_T40 l0 x7_1).f0).size : Int).toNat ≤ 281474976710656)) (by omega)) (Below.refl _ _) (Nat.le_refl _) ?_; intro v216 w35 ho36 hb hg_ hnew_; clear hg_ hnew_; (first | rw [← Ny215.out] at ho36 | (simp only [Int.reduceToNat] at ho36; rw [← Ny215.out] at ho36)); have n0_ := Aside0.mk (Kd.R_below (by (with_reducible repeat (first | apply Kd.R_alloc | apply Kd.R_drewN | apply Kd.R_drew)); exact HO_205001.out) hb); have n1_ := Aside0.mk (Kd.R_below (by (with_reducible repeat (first | apply Kd.R_alloc | apply Kd.R_drewN | apply Kd.R_drew)); exact HO_205002.out) hb); have n2_ := Aside0.mk (Kd.R_lower ho36 (below_size (by repeat (first | (with_reducible first | exact HB.out | apply below_alloc | apply pw_below_drewN | apply below_drew1 | refine below_set ?_ GE204.out | refine below_set ?_ GE209.out) | exact HB.out)))); have n3_ := Aside0.mk (blk_below (g := gb204) (o := .cells #[.string t196, .slice Ao9 t197.length co9, .slice Ao10 t200.length co10] 29 (0, 0)) (by (with_reducible repeat (first | refine blk_drewN ?_ _ | refine blk_drew ?_ | refine blk_alloc ?_ _)); exact BK204.out) hb); have n4_ := Aside0.mk (blk_below (g := gb209) (o := .cells #[.string ((rd_T40 l0 x7_1).f0), .slice A208_1 ((rd_T40 l0 x7_1).f1).length c208_1, .slice A208_2 ((rd_T40 l0 x7_1).f2).length c208_2, .slice A208_3 ((rd_T40 l0 x7_1).f3).length c208_3] 40 (0, 0)) (by (with_reducible repeat (first | refine blk_drewN ?_ _ | refine blk_drew ?_ | refine blk_alloc ?_ _)); exact BK209.out) hb); have n5_ := Aside0.mk (below_step (by repeat (first | (with_reducible first | exact HB.out | apply below_alloc | apply pw_below_drewN | apply below_drew1 | refine below_set ?_ GE204.out | refine below_set ?_ GE209.out) | exact HB.out)) hb); clear HO_205001; clear HO_205002; clear BK204; clear BK209; clear HB; have HO_205001 := n0_; have HO_205002 := n1_; have HO217 := n2_; have BK204 := n3_; have BK209 := n4_; have HB := n5_; clear n0_ n1_ n2_ n3_ n4_ n5_; clear hb ho36))
                        go_loopg [10] kj12 (fun kq v10 w' => ∃ (x9_3 : List Bool) (x10_3 : Int), v10 = .int .i64 x10_3 ∧ Aside0 (cotterlaw07_LinkKeeps.l1 kq l0 x5_1 x6_1 x7_1 x9_3 x10_3 t196 t197 t200 ((rd_T40 l0 x7_1).f0) ((rd_T40 l0 x7_1).f1) ((rd_T40 l0 x7_1).f2) ((rd_T40 l0 x7_1).f3) = some r) ∧ Aside0 (kq ≤ kj12) ∧ Aside0 (Kd.R Kd.bool 4 w' w.heap.size (fun _ => True) v216 x9_3) ∧ Aside0 (Kd.R (Kd.int .i64) 2 w' w.heap.size (fun _ => True) (.slice Ao9 t197.length co9) t197) ∧ Aside0 (Kd.R k36 36 w' w.heap.size (fun _ => True) (.slice Ao10 t200.length co10) t200) ∧ Aside0 (w'.heap[gb204]? = some (.cells #[.string t196, (.slice Ao9 t197.length co9), (.slice Ao10 t200.length co10)] 29 (0, 0))) ∧ Aside0 (w'.heap[gb209]? = some (.cells #[.string ((rd_T40 l0 x7_1).f0), (.slice A208_1 ((rd_T40 l0 x7_1).f1).length c208_1), (.slice A208_2 ((rd_T40 l0 x7_1).f2).length c208_2), (.slice A208_3 ((rd_T40 l0 x7_1).f3).length c208_3)] 40 (0, 0))) ∧ Aside0 (Below w.heap.size w w'))
                        case atStart => exact ⟨(y215), (0), (by first | rfl | (simp; done) | (simp [*]; done)), H', ⟨Nat.le_refl _⟩, ⟨by (with_reducible repeat (first | apply Kd.R_alloc | apply Kd.R_drewN | apply Kd.R_drew)); exact HO217.out⟩, ⟨by (with_reducible repeat (first | apply Kd.R_alloc | apply Kd.R_drewN | apply Kd.R_drew)); exact HO_205001.out⟩, ⟨by (with_reducible repeat (first | apply Kd.R_alloc | apply Kd.R_drewN | apply Kd.R_drew)); exact HO_205002.out⟩, ⟨by (with_reducible repeat (first | refine blk_drewN ?_ _ | refine blk_drew ?_ | refine blk_alloc ?_ _)); exact BK204.out⟩, ⟨by (with_reducible repeat (first | refine blk_drewN ?_ _ | refine blk_drew ?_ | refine blk_alloc ?_ _)); exact BK209.out⟩, ⟨by repeat (first | (with_reducible first | exact HB.out | apply below_alloc | apply pw_below_drewN | apply below_drew1 | refine below_set ?_ GE204.out | refine below_set ?_ GE209.out) | exact HB.out)⟩⟩
                        case round =>
                          clear H'
                          try clear c1
                          try clear c2
                          try clear p2
                          try clear q2
                          try clear c3
                          try clear p6
                          try clear c16
                          try clear c20
                          try clear c20b0
                          try clear c23
                          try clear c23b0
                          try clear c23b1
                          try clear c24
                          try clear c24b0
                          try clear c24b1
                          try clear c25
                          try clear c25b0
                          try clear c25b1
                          try clear c29
                          try clear q29
                          try clear c30
                          try clear c31
                          try clear c31b0
                          try clear c31b1
                          try clear c32
                          try clear c32b0
                          try clear c32b1
                          try clear c33
                          try clear hcz34_0
                          try clear hcz34_1
                          try clear hcz34_2
                          try clear hcz34_3
                          try clear hfz34_0
                          try clear hfz34_1
                          try clear hfz34_2
                          try clear hfz34_3
                          try clear p2
                          try clear p6
                          try clear q029
                          try clear q2
                          try clear q29
                          obtain ⟨x9_3, x10_3, rfl, HA, HK3, HO_9, HO_205001, HO_205002, BK204, BK209, HB⟩ := hrel
                          cases gk with
                          | zero => exact absurd HA.out (by simp [cotterlaw07_LinkKeeps.l1])
                          | succ k3 =>
                            have H := HA.out
                            clear HA
                            simp only [cotterlaw07_LinkKeeps.l1] at H
                            by_cases c37 : x10_3 < (((rd_T40 l0 x7_1).f3).length : Int)
                            · rw [if_pos c37] at H
                              have c37b0 : decide (x10_3 < (((rd_T40 l0 x7_1).f3).length : Int)) = true := decide_eq_true c37
                              (try simp only [hl208_1, hl208_2, hl208_3] at c37b0)
                              clear c37
                              have H' := Aside0.mk H
                              clear H
                              have hnb38 := NB209_204.out
                              have hnc38 := NB204_209.out
                              have hcz39_0 : wr.cell? ⟨gb209, 0, none⟩ = some (.string ((rd_T40 l0 x7_1).f0)) := (blk_cell BK209.out 0).trans rfl
                              have hcz39_1 : wr.cell? ⟨gb209, 1, none⟩ = some (.slice A208_1 ((rd_T40 l0 x7_1).f1).length c208_1) := (blk_cell BK209.out 1).trans rfl
                              have hcz39_2 : wr.cell? ⟨gb209, 2, none⟩ = some (.slice A208_2 ((rd_T40 l0 x7_1).f2).length c208_2) := (blk_cell BK209.out 2).trans rfl
                              have hcz39_3 : wr.cell? ⟨gb209, 3, none⟩ = some (.slice A208_3 ((rd_T40 l0 x7_1).f3).length c208_3) := (blk_cell BK209.out 3).trans rfl
                              have hfz39_0 := blk_frozen BK209.out 0
                              have hfz39_1 := blk_frozen BK209.out 1
                              have hfz39_2 := blk_frozen BK209.out 2
                              have hfz39_3 := blk_frozen BK209.out 3
                              go_wp2
                              go_loopg [11] k3 (fun kq v11 w' => ∃ (x9_4 : List Bool) (x11_4 : Int), v11 = .int .i64 x11_4 ∧ Aside0 (cotterlaw07_LinkKeeps.l2 kq l0 x5_1 x6_1 x7_1 x9_4 x10_3 x11_4 t196 t197 t200 ((rd_T40 l0 x7_1).f0) ((rd_T40 l0 x7_1).f1) ((rd_T40 l0 x7_1).f2) ((rd_T40 l0 x7_1).f3) = some r) ∧ Aside0 (kq ≤ k3) ∧ Aside0 (Kd.R Kd.bool 4 w' w.heap.size (fun _ => True) v216 x9_4) ∧ Aside0 (Kd.R (Kd.int .i64) 2 w' w.heap.size (fun _ => True) (.slice Ao9 t197.length co9) t197) ∧ Aside0 (Kd.R k36 36 w' w.heap.size (fun _ => True) (.slice Ao10 t200.length co10) t200) ∧ Aside0 (w'.heap[gb204]? = some (.cells #[.string t196, (.slice Ao9 t197.length co9), (.slice Ao10 t200.length co10)] 29 (0, 0))) ∧ Aside0 (w'.heap[gb209]? = some (.cells #[.string ((rd_T40 l0 x7_1).f0), (.slice A208_1 ((rd_T40 l0 x7_1).f1).length c208_1), (.slice A208_2 ((rd_T40 l0 x7_1).f2).length c208_2), (.slice A208_3 ((rd_T40 l0 x7_1).f3).length c208_3)] 40 (0, 0))) ∧ Aside0 (Below w.heap.size w w'))
                              case atStart => exact ⟨(x9_3), (0), (by first | rfl | (simp; done) | (simp [*]; done)), H', ⟨Nat.le_refl _⟩, ⟨by (with_reducible repeat (first | apply Kd.R_alloc | apply Kd.R_drewN | apply Kd.R_drew)); exact HO_9.out⟩, ⟨by (with_reducible repeat (first | apply Kd.R_alloc | apply Kd.R_drewN | apply Kd.R_drew)); exact HO_205001.out⟩, ⟨by (with_reducible repeat (first | apply Kd.R_alloc | apply Kd.R_drewN | apply Kd.R_drew)); exact HO_205002.out⟩, ⟨by (with_reducible repeat (first | refine blk_drewN ?_ _ | refine blk_drew ?_ | refine blk_alloc ?_ _)); exact BK204.out⟩, ⟨by (with_reducible repeat (first | refine blk_drewN ?_ _ | refine blk_drew ?_ | refine blk_alloc ?_ _)); exact BK209.out⟩, ⟨by repeat (first | (with_reducible first | exact HB.out | apply below_alloc | apply pw_below_drewN | apply below_drew1 | refine below_set ?_ GE204.out | refine below_set ?_ GE209.out) | exact HB.out)⟩⟩
                              case round =>
                                clear H'
                                try clear c1
                                try clear c2
                                try clear p2
                                try clear q2
                                try clear c3
                                try clear p6
                                try clear c16
                                try clear c20
                                try clear c20b0
                                try clear c23
                                try clear c23b0
                                try clear c23b1
                                try clear c24
                                try clear c24b0
                                try clear c24b1
                                try clear c25
                                try clear c25b0
                                try clear c25b1
                                try clear c29
                                try clear q29
                                try clear c30
                                try clear c31
                                try clear c31b0
                                try clear c31b1
                                try clear c32
                                try clear c32b0
                                try clear c32b1
                                try clear c33
                                try clear c37
                                try clear c37b0
                                try clear c38
                                try clear hcz34_0
                                try clear hcz34_1
                                try clear hcz34_2
                                try clear hcz34_3
                                try clear hcz39_0
                                try clear hcz39_1
                                try clear hcz39_2
                                try clear hcz39_3
                                try clear hfz34_0
                                try clear hfz34_1
                                try clear hfz34_2
                                try clear hfz34_3
                                try clear hfz39_0
                                try clear hfz39_1
                                try clear hfz39_2
                                try clear hfz39_3
                                try clear p2
                                try clear p6
                                try clear q029
                                try clear q2
                                try clear q29
                                obtain ⟨x9_4, x11_4, rfl, HA, HK4, HO_9, HO_205001, HO_205002, BK204, BK209, HB⟩ := hrel
                                cases gk with
                                | zero => exact absurd HA.out (by simp [cotterlaw07_LinkKeeps.l2])
                                | succ k4 =>
                                  have H := HA.out
                                  clear HA
                                  simp only [cotterlaw07_LinkKeeps.l2] at H
                                  by_cases c40 : x11_4 < 4
                                  · rw [if_pos c40] at H
                                    have c40b0 : decide (x11_4 < 4) = true := decide_eq_true c40
                                    clear c40
                                    by_cases c41 : 0 ≤ x10_3
                                    · rw [if_pos c41] at H
                                      have c41b0 : decide (0 ≤ x10_3) = true := decide_eq_true c41
                                      clear c41
                                      by_cases c42 : x10_3 < (((rd_T40 l0 x7_1).f3).length : Int)
                                      · rw [if_pos c42] at H
                                        have c42b0 : decide (x10_3 < (((rd_T40 l0 x7_1).f3).length : Int)) = true := decide_eq_true c42
                                        (try simp only [hl208_1, hl208_2, hl208_3] at c42b0)
                                        clear c42
                                        obtain ⟨ji43, hji43⟩ : ∃ j_ : Int, (wrap64 (((rd_T45 ((rd_T40 l0 x7_1).f3) x10_3).f0) + x11_4)) = j_ := ⟨_, rfl⟩
                                        replace H : (if 0 ≤ (ji43) then (if (ji43) < (x9_4.length : Int) then (cotterlaw07_LinkKeeps.l2 k4 l0 x5_1 x6_1 x7_1 (x9_4.set ((ji43) : Int).toNat true) x10_3 (wrap64 (x11_4 + 1)) t196 t197 t200 ((rd_T40 l0 x7_1).f0) ((rd_T40 l0 x7_1).f1) ((rd_T40 l0 x7_1).f2) ((rd_T40 l0 x7_1).f3)) else (none)) else (none)) = some r := by first | (rw [hji43] at H; exact H) | (simp only [hji43] at H ⊢; exact H)
                                        have hji43w : (IntKind.i64.wrap (((rd_T45 ((rd_T40 l0 x7_1).f3) x10_3).f0) + x11_4)) = ji43 := (i64_w _).trans hji43
                                        by_cases c44 : 0 ≤ (ji43)
                                        · rw [if_pos c44] at H
                                          have c44b0 : decide (0 ≤ (ji43)) = true := decide_eq_true c44
                                          clear c44
                                          by_cases c45 : (ji43) < (x9_4.length : Int)
                                          · rw [if_pos c45] at H
                                            have c45b0 : decide ((ji43) < (x9_4.length : Int)) = true := decide_eq_true c45
                                            (try simp only [hl208_1, hl208_2, hl208_3] at c45b0)
                                            clear c45
                                            obtain ⟨y219, hy219⟩ : ∃ y_ : List Bool, y_ = (x9_4.set ((ji43) : Int).toNat true) := ⟨_, rfl⟩
                                            replace H : (cotterlaw07_LinkKeeps.l2 k4 l0 x5_1 x6_1 x7_1 y219 x10_3 (wrap64 (x11_4 + 1)) t196 t197 t200 ((rd_T40 l0 x7_1).f0) ((rd_T40 l0 x7_1).f1) ((rd_T40 l0 x7_1).f2) ((rd_T40 l0 x7_1).f3)) = some r := by first | (rw [hy219]; with_reducible exact H) | (have H2_ := (Option.bind_some _ _).symm.trans H; rw [hy219]; with_reducible exact H2_) | (have H2_ := (Option.bind_some _ _).symm.trans H; with_reducible exact H2_) | with_reducible exact H | (rw [hy219]; exact H) | exact H
                                            have Ny219 := Aside0.mk hy219
                                            clear hy219
                                            have H' := Aside0.mk H
                                            clear H
                                            have hnb47 := NB209_204.out
                                            have hnc47 := NB204_209.out
                                            have hcz48_0 : wr.cell? ⟨gb209, 0, none⟩ = some (.string ((rd_T40 l0 x7_1).f0)) := (blk_cell BK209.out 0).trans rfl
                                            have hcz48_1 : wr.cell? ⟨gb209, 1, none⟩ = some (.slice A208_1 ((rd_T40 l0 x7_1).f1).length c208_1) := (blk_cell BK209.out 1).trans rfl
                                            have hcz48_2 : wr.cell? ⟨gb209, 2, none⟩ = some (.slice A208_2 ((rd_T40 l0 x7_1).f2).length c208_2) := (blk_cell BK209.out 2).trans rfl
                                            have hcz48_3 : wr.cell? ⟨gb209, 3, none⟩ = some (.slice A208_3 ((rd_T40 l0 x7_1).f3).length c208_3) := (blk_cell BK209.out 3).trans rfl
                                            have hfz48_0 := blk_frozen BK209.out 0
                                            have hfz48_1 := blk_frozen BK209.out 1
                                            have hfz48_2 := blk_frozen BK209.out 2
                                            have hfz48_3 := blk_frozen BK209.out 3
                                            have p218 : 0 ≤ (x10_3 : Int) := of_decide_eq_true (by first | (with_reducible assumption) | assumption)
                                            have q218 : x10_3 < (((rd_T40 l0 x7_1).f3).length : Int) := of_decide_eq_true (by first | (with_reducible assumption) | assumption)
                                            obtain ⟨ad218, e218, hx218_0, hx218_1, hx218_2, hx218_3⟩ := at_T45 HR208_3.out x10_3 p218 q218
                                            cases e218
                                            replace hx218_0 := (HB.out.cell (World.block_lt_of_cell? w _ hx218_0)).trans hx218_0
                                            replace hx218_1 := (HB.out.cell (World.block_lt_of_cell? w _ hx218_1)).trans hx218_1
                                            replace hx218_2 := (HB.out.cell (World.block_lt_of_cell? w _ hx218_2)).trans hx218_2
                                            replace hx218_3 := (HB.out.cell (World.block_lt_of_cell? w _ hx218_3)).trans hx218_3
                                            replace p218 := eq_true p218
                                            replace q218 := eq_true q218
                                            have p46 : 0 ≤ ((ji43) : Int) := of_decide_eq_true (by first | (with_reducible assumption) | assumption)
                                            have q46 : ((ji43) : Int) < ((x9_4.length : Int) : Int) := of_decide_eq_true (by first | (with_reducible assumption) | assumption)
                                            obtain ⟨go46, co46, eo46, gb46, gl46, cl46, HG46⟩ := Kd.R_form HO_9.out (by omega)
                                            (first | cases eo46 | (injection eo46 with ea_ en_ ec_; (first | subst ea_ | (injection ea_ with ea_; subst ea_)); subst ec_; clear en_))
                                            have GB46 := Aside0.mk gb46
                                            have GG46 := Aside0.mk HG46
                                            clear gb46 gl46 HG46
                                            obtain ⟨hx46_0, hf46_0⟩ := Kd.R_celln false HO_9.out ((ji43) : Int) p46 q46
                                            replace p46 := eq_true p46
                                            replace q46 := eq_true q46
                                            have HP49 := Kd.R_putg HO_9.out ((ji43) : Int) true
                                            go_wp2_with (first | ((with_reducible refine gate_store (t := 4) (p := 99) rfl ?_); refine store_event (t := 4) (p := 99) (v := ?vo_w50) (w1 := (wr.setCell ⟨go46, ((ji43) : Int).toNat, none⟩ (.bool true))) ?hg ?ho ?hn ?hr ?_; (case ho => rfl); (case hg => rfl); (case hn => rfl); (case hr => first | (go_simp; done) | (go_simp; rfl)); intro w50 hw; have hg : wr.grownBy w50 (some go46) := (by rw [hw]; exact HP49.2); have hp_ : Kd.R Kd.bool 4 w50 w.heap.size (fun _ => True) (.slice (some ⟨go46, 0, none⟩) x9_4.length co46) y219 := (by rw [hw, Ny219.out]; exact HP49.1); clear HP49; have n0_ := Aside0.mk (hp_); have n1_ := Aside0.mk (Kd.R_over' (v := (.slice (some ⟨go46, 0, none⟩) x9_4.length co46)) (by (with_reducible repeat (first | apply Kd.R_alloc | apply Kd.R_drewN | apply Kd.R_drew)); exact HO_205001.out) (Kd.R_typed HO_9.out) (by decide) hg); have n2_ := Aside0.mk (Kd.R_over' (v := (.slice (some ⟨go46, 0, none⟩) x9_4.length co46)) (by (with_reducible repeat (first | apply Kd.R_alloc | apply Kd.R_drewN | apply Kd.R_drew)); exact HO_205002.out) (Kd.R_typed HO_9.out) (by decide) hg); have n3_ := Aside0.mk (blk_grown (g := gb204) (o := .cells #[.string t196, .slice Ao9 t197.length co9, .slice Ao10 t200.length co10] 29 (0, 0)) (by (with_reducible repeat (first | refine blk_drewN ?_ _ | refine blk_drew ?_ | refine blk_alloc ?_ _)); exact BK204.out) hg (Kd.R_ne HO_9.out BK204.out (by decide))); have n4_ := Aside0.mk (blk_grown (g := gb209) (o := .cells #[.string ((rd_T40 l0 x7_1).f0), .slice A208_1 ((rd_T40 l0 x7_1).f1).length c208_1, .slice A208_2 ((rd_T40 l0 x7_1).f2).length c208_2, .slice (some ad218) ((rd_T40 l0 x7_1).f3).length c208_3] 40 (0, 0)) (by (with_reducible repeat (first | refine blk_drewN ?_ _ | refine blk_drew ?_ | refine blk_alloc ?_ _)); exact BK209.out) hg (Kd.R_ne HO_9.out BK209.out (by decide))); have n5_ := Aside0.mk ((by rw [hw]; exact below_set (HB.out) GB46.out : Below w.heap.size w w50)); clear HO_9; clear HO_205001; clear HO_205002; clear BK204; clear BK209; clear HB; have HO_9 := n0_; have HO_205001 := n1_; have HO_205002 := n2_; have BK204 := n3_; have BK209 := n4_; have HB := n5_; clear n0_ n1_ n2_ n3_ n4_ n5_; clear hg hw hp_))
                                            go_roundg k4
                                            case measure => have := HK1.out; have := HJ12.out; have := HK3.out; have := HK4.out; omega
                                            case rel => exact ⟨(y219), (wrap64 (x11_4 + 1)), (by first | rfl | (simp; done) | (simp [*]; done)), H', ⟨by have := HK1.out; have := HJ12.out; have := HK3.out; have := HK4.out; omega⟩, ⟨by (with_reducible repeat (first | apply Kd.R_alloc | apply Kd.R_drewN | apply Kd.R_drew)); exact HO_9.out⟩, ⟨by (with_reducible repeat (first | apply Kd.R_alloc | apply Kd.R_drewN | apply Kd.R_drew)); exact HO_205001.out⟩, ⟨by (with_reducible repeat (first | apply Kd.R_alloc | apply Kd.R_drewN | apply Kd.R_drew)); exact HO_205002.out⟩, ⟨by (with_reducible repeat (first | refine blk_drewN ?_ _ | refine blk_drew ?_ | refine blk_alloc ?_ _)); exact BK204.out⟩, ⟨by (with_reducible repeat (first | refine blk_drewN ?_ _ | refine blk_drew ?_ | refine blk_alloc ?_ _)); exact BK209.out⟩, ⟨by repeat (first | (with_reducible first | exact HB.out | apply below_alloc | apply pw_below_drewN | apply below_drew1 | refine below_set ?_ GE204.out | refine below_set ?_ GE209.out) | exact HB.out)⟩⟩
                                          · rw [if_neg c45] at H
                                            exact absurd H (by simp)
                                        · rw [if_neg c44] at H
                                          exact absurd H (by simp)
                                      · rw [if_neg c42] at H
                                        exact absurd H (by simp)
                                    · rw [if_neg c41] at H
                                      exact absurd H (by simp)
                                  · rw [if_neg c40] at H
                                    have c40b0 : decide (x11_4 < 4) = false := decide_eq_false c40
                                    clear c40
                                    have H' := Aside0.mk H
                                    clear H
                                    go_wp2
                                    go_roundg k4
                                    case measure => have := HK1.out; have := HJ12.out; have := HK3.out; have := HK4.out; omega
                                    case rel => exact ⟨(x9_4), (wrap64 (x10_3 + 1)), (by first | rfl | (simp; done) | (simp [*]; done)), H', ⟨by have := HK1.out; have := HJ12.out; have := HK3.out; have := HK4.out; omega⟩, ⟨by (with_reducible repeat (first | apply Kd.R_alloc | apply Kd.R_drewN | apply Kd.R_drew)); exact HO_9.out⟩, ⟨by (with_reducible repeat (first | apply Kd.R_alloc | apply Kd.R_drewN | apply Kd.R_drew)); exact HO_205001.out⟩, ⟨by (with_reducible repeat (first | apply Kd.R_alloc | apply Kd.R_drewN | apply Kd.R_drew)); exact HO_205002.out⟩, ⟨by (with_reducible repeat (first | refine blk_drewN ?_ _ | refine blk_drew ?_ | refine blk_alloc ?_ _)); exact BK204.out⟩, ⟨by (with_reducible repeat (first | refine blk_drewN ?_ _ | refine blk_drew ?_ | refine blk_alloc ?_ _)); exact BK209.out⟩, ⟨by repeat (first | (with_reducible first | exact HB.out | apply below_alloc | apply pw_below_drewN | apply below_drew1 | refine below_set ?_ GE204.out | refine below_set ?_ GE209.out) | exact HB.out)⟩⟩
                            · rw [if_neg c37] at H
                              have c37b0 : decide (x10_3 < (((rd_T40 l0 x7_1).f3).length : Int)) = false := decide_eq_false c37
                              (try simp only [hl208_1, hl208_2, hl208_3] at c37b0)
                              clear c37
                              have H' := Aside0.mk H
                              clear H
                              have hnb51 := NB209_204.out
                              have hnc51 := NB204_209.out
                              have hcz52_0 : wr.cell? ⟨gb209, 0, none⟩ = some (.string ((rd_T40 l0 x7_1).f0)) := (blk_cell BK209.out 0).trans rfl
                              have hcz52_1 : wr.cell? ⟨gb209, 1, none⟩ = some (.slice A208_1 ((rd_T40 l0 x7_1).f1).length c208_1) := (blk_cell BK209.out 1).trans rfl
                              have hcz52_2 : wr.cell? ⟨gb209, 2, none⟩ = some (.slice A208_2 ((rd_T40 l0 x7_1).f2).length c208_2) := (blk_cell BK209.out 2).trans rfl
                              have hcz52_3 : wr.cell? ⟨gb209, 3, none⟩ = some (.slice A208_3 ((rd_T40 l0 x7_1).f3).length c208_3) := (blk_cell BK209.out 3).trans rfl
                              have hfz52_0 := blk_frozen BK209.out 0
                              have hfz52_1 := blk_frozen BK209.out 1
                              have hfz52_2 := blk_frozen BK209.out 2
                              have hfz52_3 := blk_frozen BK209.out 3
                              go_wp2
                              go_loopg [12] k3 (fun kq v12 w' => ∃ (x12_4 : Int), v12 = .int .i64 x12_4 ∧ Aside0 (cotterlaw07_LinkKeeps.l3 kq l0 x5_1 x6_1 x7_1 x9_3 x12_4 t196 t197 t200 ((rd_T40 l0 x7_1).f0) ((rd_T40 l0 x7_1).f1) ((rd_T40 l0 x7_1).f2) ((rd_T40 l0 x7_1).f3) = some r) ∧ Aside0 (kq ≤ k3) ∧ Aside0 (Kd.R Kd.bool 4 w' w.heap.size (fun _ => True) v216 x9_3) ∧ Aside0 (Kd.R (Kd.int .i64) 2 w' w.heap.size (fun _ => True) (.slice Ao9 t197.length co9) t197) ∧ Aside0 (Kd.R k36 36 w' w.heap.size (fun _ => True) (.slice Ao10 t200.length co10) t200) ∧ Aside0 (w'.heap[gb204]? = some (.cells #[.string t196, (.slice Ao9 t197.length co9), (.slice Ao10 t200.length co10)] 29 (0, 0))) ∧ Aside0 (w'.heap[gb209]? = some (.cells #[.string ((rd_T40 l0 x7_1).f0), (.slice A208_1 ((rd_T40 l0 x7_1).f1).length c208_1), (.slice A208_2 ((rd_T40 l0 x7_1).f2).length c208_2), (.slice A208_3 ((rd_T40 l0 x7_1).f3).length c208_3)] 40 (0, 0))) ∧ Aside0 (Below w.heap.size w w'))
                              case atStart => exact ⟨(0), (by first | rfl | (simp; done) | (simp [*]; done)), H', ⟨Nat.le_refl _⟩, ⟨by (with_reducible repeat (first | apply Kd.R_alloc | apply Kd.R_drewN | apply Kd.R_drew)); exact HO_9.out⟩, ⟨by (with_reducible repeat (first | apply Kd.R_alloc | apply Kd.R_drewN | apply Kd.R_drew)); exact HO_205001.out⟩, ⟨by (with_reducible repeat (first | apply Kd.R_alloc | apply Kd.R_drewN | apply Kd.R_drew)); exact HO_205002.out⟩, ⟨by (with_reducible repeat (first | refine blk_drewN ?_ _ | refine blk_drew ?_ | refine blk_alloc ?_ _)); exact BK204.out⟩, ⟨by (with_reducible repeat (first | refine blk_drewN ?_ _ | refine blk_drew ?_ | refine blk_alloc ?_ _)); exact BK209.out⟩, ⟨by repeat (first | (with_reducible first | exact HB.out | apply below_alloc | apply pw_below_drewN | apply below_drew1 | refine below_set ?_ GE204.out | refine below_set ?_ GE209.out) | exact HB.out)⟩⟩
                              case round =>
                                clear H'
                                try clear c1
                                try clear c2
                                try clear p2
                                try clear q2
                                try clear hx2
                                try clear c3
                                try clear c4
                                try clear p4
                                try clear q4
                                try clear hx4
                                try clear hf4
                                try clear c5
                                try clear p6
                                try clear c16
                                try clear c20
                                try clear c20b0
                                try clear p21
                                try clear q21
                                try clear hx21
                                try clear c23
                                try clear c23b0
                                try clear c23b1
                                try clear c24
                                try clear c24b0
                                try clear c24b1
                                try clear c25
                                try clear c25b0
                                try clear c25b1
                                try clear c29
                                try clear q29
                                try clear c30
                                try clear c31
                                try clear c31b0
                                try clear c31b1
                                try clear c32
                                try clear c32b0
                                try clear c32b1
                                try clear c33
                                try clear c37
                                try clear c37b0
                                try clear c38
                                try clear c40
                                try clear c40b0
                                try clear c41
                                try clear c41b0
                                try clear c42
                                try clear c42b0
                                try clear c44
                                try clear c44b0
                                try clear c45
                                try clear c45b0
                                try clear p46
                                try clear q46
                                try clear hx46
                                try clear hf46
                                try clear c47
                                try clear c51
                                try clear hcz34_0
                                try clear hcz34_1
                                try clear hcz34_2
                                try clear hcz34_3
                                try clear hcz39_0
                                try clear hcz39_1
                                try clear hcz39_2
                                try clear hcz39_3
                                try clear hcz48_0
                                try clear hcz48_1
                                try clear hcz48_2
                                try clear hcz48_3
                                try clear hcz52_0
                                try clear hcz52_1
                                try clear hcz52_2
                                try clear hcz52_3
                                try clear hfz34_0
                                try clear hfz34_1
                                try clear hfz34_2
                                try clear hfz34_3
                                try clear hfz39_0
                                try clear hfz39_1
                                try clear hfz39_2
                                try clear hfz39_3
                                try clear hfz48_0
                                try clear hfz48_1
                                try clear hfz48_2
                                try clear hfz48_3
                                try clear hfz52_0
                                try clear hfz52_1
                                try clear hfz52_2
                                try clear hfz52_3
                                try clear hx218_0
                                try clear hx218_1
                                try clear hx218_2
                                try clear hx218_3
                                try clear hx46_0
                                try clear p2
                                try clear p218
                                try clear p46
                                try clear p6
                                try clear q029
                                try clear q2
                                try clear q218
                                try clear q29
                                try clear q46
                                obtain ⟨x12_4, rfl, HA, HK4, HO_9, HO_205001, HO_205002, BK204, BK209, HB⟩ := hrel
                                cases gk with
                                | zero => exact absurd HA.out (by simp [cotterlaw07_LinkKeeps.l3])
                                | succ k4 =>
                                  have H := HA.out
                                  clear HA
                                  simp only [cotterlaw07_LinkKeeps.l3] at H
                                  by_cases c53 : x12_4 < (((rd_T40 l0 x7_1).f0).size : Int)
                                  · rw [if_pos c53] at H
                                    have c53b0 : decide (x12_4 < (((rd_T40 l0 x7_1).f0).size : Int)) = true := decide_eq_true c53
                                    clear c53
                                    by_cases c54 : 0 ≤ x12_4
                                    · rw [if_pos c54] at H
                                      have c54b0 : decide (0 ≤ x12_4) = true := decide_eq_true c54
                                      clear c54
                                      by_cases c55 : x12_4 < (x9_3.length : Int)
                                      · rw [if_pos c55] at H
                                        have c55b0 : decide (x12_4 < (x9_3.length : Int)) = true := decide_eq_true c55
                                        (try simp only [hl208_1, hl208_2, hl208_3] at c55b0)
                                        clear c55
                                        obtain ⟨bq56, hbq56⟩ : ∃ b_ : Bool, b_ = (rdOf false x9_3 x12_4) := ⟨_, rfl⟩
                                        replace H : (if bq56 = true then (cotterlaw07_LinkKeeps.l3 k4 l0 x5_1 x6_1 x7_1 x9_3 (wrap64 (x12_4 + 1)) t196 t197 t200 ((rd_T40 l0 x7_1).f0) ((rd_T40 l0 x7_1).f1) ((rd_T40 l0 x7_1).f2) ((rd_T40 l0 x7_1).f3)) else (if 0 ≤ (wrap64 (x5_1 + x12_4)) then (if (wrap64 (x5_1 + x12_4)) < (t196.size : Int) then (if (bt t196 (wrap64 (x5_1 + x12_4))) = (bt ((rd_T40 l0 x7_1).f0) x12_4) then (cotterlaw07_LinkKeeps.l3 k4 l0 x5_1 x6_1 x7_1 x9_3 (wrap64 (x12_4 + 1)) t196 t197 t200 ((rd_T40 l0 x7_1).f0) ((rd_T40 l0 x7_1).f1) ((rd_T40 l0 x7_1).f2) ((rd_T40 l0 x7_1).f3)) else (some false)) else (none)) else (none))) = some r := by rw [← hbq56] at H; exact H
                                        have Nbq56 := Aside0.mk hbq56
                                        clear hbq56
                                        by_cases c57 : bq56 = true
                                        · subst c57
                                          have H1 : (cotterlaw07_LinkKeeps.l3 k4 l0 x5_1 x6_1 x7_1 x9_3 (wrap64 (x12_4 + 1)) t196 t197 t200 ((rd_T40 l0 x7_1).f0) ((rd_T40 l0 x7_1).f1) ((rd_T40 l0 x7_1).f2) ((rd_T40 l0 x7_1).f3)) = some r := by rw [if_pos rfl] at H; exact H
                                          clear H
                                          have H := H1
                                          clear H1
                                          have H' := Aside0.mk H
                                          clear H
                                          have hnb58 := NB209_204.out
                                          have hnc58 := NB204_209.out
                                          have hcz59_0 : wr.cell? ⟨gb209, 0, none⟩ = some (.string ((rd_T40 l0 x7_1).f0)) := (blk_cell BK209.out 0).trans rfl
                                          have hcz59_1 : wr.cell? ⟨gb209, 1, none⟩ = some (.slice A208_1 ((rd_T40 l0 x7_1).f1).length c208_1) := (blk_cell BK209.out 1).trans rfl
                                          have hcz59_2 : wr.cell? ⟨gb209, 2, none⟩ = some (.slice A208_2 ((rd_T40 l0 x7_1).f2).length c208_2) := (blk_cell BK209.out 2).trans rfl
                                          have hcz59_3 : wr.cell? ⟨gb209, 3, none⟩ = some (.slice A208_3 ((rd_T40 l0 x7_1).f3).length c208_3) := (blk_cell BK209.out 3).trans rfl
                                          have hfz59_0 := blk_frozen BK209.out 0
                                          have hfz59_1 := blk_frozen BK209.out 1
                                          have hfz59_2 := blk_frozen BK209.out 2
                                          have hfz59_3 := blk_frozen BK209.out 3
                                          try go_wp2
                                          have o_HO_9 := HO_9
                                          have n0_ := Aside0.mk (Kd.R_drew HO_9.out)
                                          have o_HO_205001 := HO_205001
                                          have n1_ := Aside0.mk (Kd.R_drew HO_205001.out)
                                          have o_HO_205002 := HO_205002
                                          have n2_ := Aside0.mk (Kd.R_drew HO_205002.out)
                                          have o_BK204 := BK204
                                          have n3_ := Aside0.mk (blk_drew BK204.out)
                                          have o_BK209 := BK209
                                          have n4_ := Aside0.mk (blk_drew BK209.out)
                                          have o_HB := HB
                                          have n5_ := Aside0.mk (below_drew1 HB.out)
                                          clear HO_9
                                          clear HO_205001
                                          clear HO_205002
                                          clear BK204
                                          clear BK209
                                          clear HB
                                          have HO_9 := n0_
                                          have HO_205001 := n1_
                                          have HO_205002 := n2_
                                          have BK204 := n3_
                                          have BK209 := n4_
                                          have HB := n5_
                                          clear n0_ n1_ n2_ n3_ n4_ n5_
                                          obtain ⟨Ao61, co61, eo61⟩ := Kd.R_slice HO_9.out
                                          (first | subst eo61 | (injection eo61 with f1_ f2_ f3_; have f4_ := f1_.symm; have f5_ := f3_.symm; clear f1_ f2_ f3_; subst f4_; subst f5_))
                                          have p220 : 0 ≤ (x12_4 : Int) := of_decide_eq_true (by first | (with_reducible assumption) | assumption)
                                          have q220 : x12_4 < (x9_3.length : Int) := of_decide_eq_true (by first | (with_reducible assumption) | assumption)
                                          obtain ⟨ad220, e220, hx220_0⟩ := Kd.at_bool (Kd.R_reads' HO_9.out).2.2 x12_4 p220 q220
                                          (try rw [← Nbq56.out] at hx220_0)
                                          cases e220
                                          replace p220 := eq_true p220
                                          replace q220 := eq_true q220
                                          refine start_ (n := 18) (S := fun w' => w'.cell? (ad220.add (x12_4).toNat) = some (.bool true)) (ds := []) #[false, false, false, false, false, false, false, false, false, false, false, false, false, false, false, false, false, false] (by kernel_rfl) rfl rfl (hx220_0) (fun hHeld => ?_); refine with_tabW cotterlaw07_LinkKeeps.tab25 cotterlaw07_LinkKeeps.bits25 (fun HT_ HW_ => ?_)
                                          generalize wr.drew = w60 at HO_9 HO_205001 HO_205002 BK204 BK209 HB hx220_0 hHeld ⊢
                                          refine pure_ (i := 0) (N := some 107) (v := ?_) (a' := ?_) #[true, false, false, false, false, false, false, false, false, false, false, false, false, false, false, false, false, false] rfl rfl (any_of HT_.out (by kernel_rfl)) (fun _ _ _ h => h) (Or.inl ⟨by rfl, ?_⟩) ?_ ?_
                                          rotate_left
                                          · intro w'
                                            go_simp
                                            with_reducible rfl
                                          rotate_left
                                          · simp only [Act.put, List.setIfInBounds_toArray, List.set_cons_zero, List.set_cons_succ, i64_w, i32_w]
                                            rfl
                                          refine pure_ (i := 1) (N := some 108) (v := ?_) (a' := ?_) #[true, true, false, false, false, false, false, false, false, false, false, false, false, false, false, false, false, false] rfl rfl (any_of HT_.out (by kernel_rfl)) (fun _ _ _ h => h) (Or.inl ⟨by rfl, ?_⟩) ?_ ?_
                                          rotate_left
                                          · intro w'
                                            go_simp
                                            with_reducible rfl
                                          rotate_left
                                          · simp only [Act.put, List.setIfInBounds_toArray, List.set_cons_zero, List.set_cons_succ, i64_w, i32_w]
                                            rfl
                                          refine pure_ (i := 2) (N := some 109) (v := ?_) (a' := ?_) #[true, true, true, false, false, false, false, false, false, false, false, false, false, false, false, false, false, false] rfl rfl (any_of HT_.out (by kernel_rfl)) (fun _ _ _ h => h) (Or.inl ⟨by rfl, ?_⟩) ?_ ?_
                                          rotate_left
                                          · intro w'
                                            go_simp
                                            with_reducible rfl
                                          rotate_left
                                          · simp only [Act.put, List.setIfInBounds_toArray, List.set_cons_zero, List.set_cons_succ, i64_w, i32_w]
                                            rfl
                                          refine take_ (i := 3) (N := some 110) (v := ?_) (a' := ?_) #[true, true, true, true, false, false, false, false, false, false, false, false, false, false, false, false, false, false] rfl rfl (take_ofW HT_.out HW_.out (by kernel_rfl)) (fun _ _ _ h => h) (Or.inl ⟨by rfl, ?_⟩) hHeld ?_ ?_
                                          rotate_left
                                          · intro w' s0
                                            go_simp
                                            with_reducible rfl
                                          rotate_left
                                          · simp only [Act.put, List.setIfInBounds_toArray, List.set_cons_zero, List.set_cons_succ, i64_w, i32_w]
                                            rfl
                                          refine pure_ (i := 4) (N := some 111) (v := ?_) (a' := ?_) #[true, true, true, true, true, false, false, false, false, false, false, false, false, false, false, false, false, false] rfl rfl (any_of HT_.out (by kernel_rfl)) (fun _ _ _ h => h) (Or.inl ⟨by rfl, ?_⟩) ?_ ?_
                                          rotate_left
                                          · intro w'
                                            go_simp
                                            with_reducible rfl
                                          rotate_left
                                          · simp only [Act.put, List.setIfInBounds_toArray, List.set_cons_zero, List.set_cons_succ, i64_w, i32_w]
                                            rfl
                                          refine pure_ (i := 5) (N := some 112) (v := ?_) (a' := ?_) #[true, true, true, true, true, true, false, false, false, false, false, false, false, false, false, false, false, false] rfl rfl (any_of HT_.out (by kernel_rfl)) (fun _ _ _ h => h) (Or.inl ⟨by rfl, ?_⟩) ?_ ?_
                                          rotate_left
                                          · intro w'
                                            go_simp
                                            with_reducible rfl
                                          rotate_left
                                          · simp only [Act.put, List.setIfInBounds_toArray, List.set_cons_zero, List.set_cons_succ, i64_w, i32_w]
                                            rfl
                                          refine pure_ (i := 6) (N := some 113) (v := undef) (a' := ?_) #[true, true, true, true, true, true, true, false, false, false, false, false, false, false, false, false, false, false] rfl rfl (any_of HT_.out (by kernel_rfl)) (fun _ _ _ h => h) (Or.inr ⟨by rfl, rfl⟩) ?_ ?_
                                          rotate_left
                                          · simp only [Act.put, List.setIfInBounds_toArray, List.set_cons_zero, List.set_cons_succ, i64_w, i32_w]
                                            rfl
                                          refine pure_ (i := 7) (N := some 114) (v := undef) (a' := ?_) #[true, true, true, true, true, true, true, true, false, false, false, false, false, false, false, false, false, false] rfl rfl (any_of HT_.out (by kernel_rfl)) (fun _ _ _ h => h) (Or.inr ⟨by rfl, rfl⟩) ?_ ?_
                                          rotate_left
                                          · simp only [Act.put, List.setIfInBounds_toArray, List.set_cons_zero, List.set_cons_succ, i64_w, i32_w]
                                            rfl
                                          refine pure_ (i := 8) (N := some 115) (v := undef) (a' := ?_) #[true, true, true, true, true, true, true, true, true, false, false, false, false, false, false, false, false, false] rfl rfl (any_of HT_.out (by kernel_rfl)) (fun _ _ _ h => h) (Or.inr ⟨by rfl, rfl⟩) ?_ ?_
                                          rotate_left
                                          · simp only [Act.put, List.setIfInBounds_toArray, List.set_cons_zero, List.set_cons_succ, i64_w, i32_w]
                                            rfl
                                          refine pure_ (i := 9) (N := some 116) (v := undef) (a' := ?_) #[true, true, true, true, true, true, true, true, true, true, false, false, false, false, false, false, false, false] rfl rfl (any_of HT_.out (by kernel_rfl)) (fun _ _ _ h => h) (Or.inr ⟨by rfl, rfl⟩) ?_ ?_
                                          rotate_left
                                          · simp only [Act.put, List.setIfInBounds_toArray, List.set_cons_zero, List.set_cons_succ, i64_w, i32_w]
                                            rfl
                                          refine pure_ (i := 10) (N := some 117) (v := undef) (a' := ?_) #[true, true, true, true, true, true, true, true, true, true, true, false, false, false, false, false, false, false] rfl rfl (any_of HT_.out (by kernel_rfl)) (fun _ _ _ h => h) (Or.inr ⟨by rfl, rfl⟩) ?_ ?_
                                          rotate_left
                                          · simp only [Act.put, List.setIfInBounds_toArray, List.set_cons_zero, List.set_cons_succ, i64_w, i32_w]
                                            rfl
                                          refine pure_ (i := 11) (N := some 118) (v := undef) (a' := ?_) #[true, true, true, true, true, true, true, true, true, true, true, true, false, false, false, false, false, false] rfl rfl (any_of HT_.out (by kernel_rfl)) (fun _ _ _ h => h) (Or.inr ⟨by rfl, rfl⟩) ?_ ?_
                                          rotate_left
                                          · simp only [Act.put, List.setIfInBounds_toArray, List.set_cons_zero, List.set_cons_succ, i64_w, i32_w]
                                            rfl
                                          refine pure_ (i := 12) (N := some 119) (v := undef) (a' := ?_) #[true, true, true, true, true, true, true, true, true, true, true, true, true, false, false, false, false, false] rfl rfl (any_of HT_.out (by kernel_rfl)) (fun _ _ _ h => h) (Or.inr ⟨by rfl, rfl⟩) ?_ ?_
                                          rotate_left
                                          · simp only [Act.put, List.setIfInBounds_toArray, List.set_cons_zero, List.set_cons_succ, i64_w, i32_w]
                                            rfl
                                          refine pure_ (i := 13) (N := some 120) (v := undef) (a' := ?_) #[true, true, true, true, true, true, true, true, true, true, true, true, true, true, false, false, false, false] rfl rfl (any_of HT_.out (by kernel_rfl)) (fun _ _ _ h => h) (Or.inr ⟨by rfl, rfl⟩) ?_ ?_
                                          rotate_left
                                          · simp only [Act.put, List.setIfInBounds_toArray, List.set_cons_zero, List.set_cons_succ, i64_w, i32_w]
                                            rfl
                                          refine pure_ (i := 14) (N := some 121) (v := undef) (a' := ?_) #[true, true, true, true, true, true, true, true, true, true, true, true, true, true, true, false, false, false] rfl rfl (any_of HT_.out (by kernel_rfl)) (fun _ _ _ h => h) (Or.inr ⟨by rfl, rfl⟩) ?_ ?_
                                          rotate_left
                                          · simp only [Act.put, List.setIfInBounds_toArray, List.set_cons_zero, List.set_cons_succ, i64_w, i32_w]
                                            rfl
                                          refine pure_ (i := 15) (N := some 122) (v := undef) (a' := ?_) #[true, true, true, true, true, true, true, true, true, true, true, true, true, true, true, true, false, false] rfl rfl (any_of HT_.out (by kernel_rfl)) (fun _ _ _ h => h) (Or.inr ⟨by rfl, rfl⟩) ?_ ?_
                                          rotate_left
                                          · simp only [Act.put, List.setIfInBounds_toArray, List.set_cons_zero, List.set_cons_succ, i64_w, i32_w]
                                            rfl
                                          refine pure_ (i := 16) (N := some 123) (v := undef) (a' := ?_) #[true, true, true, true, true, true, true, true, true, true, true, true, true, true, true, true, true, false] rfl rfl (any_of HT_.out (by kernel_rfl)) (fun _ _ _ h => h) (Or.inr ⟨by rfl, rfl⟩) ?_ ?_
                                          rotate_left
                                          · simp only [Act.put, List.setIfInBounds_toArray, List.set_cons_zero, List.set_cons_succ, i64_w, i32_w]
                                            rfl
                                          refine pure_ (i := 17) (N := some 124) (v := ?_) (a' := ?_) #[true, true, true, true, true, true, true, true, true, true, true, true, true, true, true, true, true, true] rfl rfl (any_of HT_.out (by kernel_rfl)) (fun _ _ _ h => h) (Or.inl ⟨by rfl, ?_⟩) ?_ ?_
                                          rotate_left
                                          · intro w'
                                            go_simp
                                            with_reducible rfl
                                          rotate_left
                                          · simp only [Act.put, List.setIfInBounds_toArray, List.set_cons_zero, List.set_cons_succ, i64_w, i32_w]
                                            rfl
                                          refine done_ (done_of HT_.out (by kernel_rfl)) ?_
                                          try go_wp2
                                          go_roundg k4
                                          case measure => have := HK1.out; have := HJ12.out; have := HK3.out; have := HK4.out; omega
                                          case rel => exact ⟨(wrap64 (x12_4 + 1)), (by first | rfl | (simp; done) | (simp [*]; done)), H', ⟨by have := HK1.out; have := HJ12.out; have := HK3.out; have := HK4.out; omega⟩, ⟨by (with_reducible repeat (first | apply Kd.R_alloc | apply Kd.R_drewN | apply Kd.R_drew)); exact HO_9.out⟩, ⟨by (with_reducible repeat (first | apply Kd.R_alloc | apply Kd.R_drewN | apply Kd.R_drew)); exact HO_205001.out⟩, ⟨by (with_reducible repeat (first | apply Kd.R_alloc | apply Kd.R_drewN | apply Kd.R_drew)); exact HO_205002.out⟩, ⟨by (with_reducible repeat (first | refine blk_drewN ?_ _ | refine blk_drew ?_ | refine blk_alloc ?_ _)); exact BK204.out⟩, ⟨by (with_reducible repeat (first | refine blk_drewN ?_ _ | refine blk_drew ?_ | refine blk_alloc ?_ _)); exact BK209.out⟩, ⟨by repeat (first | (with_reducible first | exact HB.out | apply below_alloc | apply pw_below_drewN | apply below_drew1 | refine below_set ?_ GE204.out | refine below_set ?_ GE209.out) | exact HB.out)⟩⟩
                                        · replace c57 := Bool.eq_false_iff.mpr c57
                                          subst c57
                                          have H1 : (if 0 ≤ (wrap64 (x5_1 + x12_4)) then (if (wrap64 (x5_1 + x12_4)) < (t196.size : Int) then (if (bt t196 (wrap64 (x5_1 + x12_4))) = (bt ((rd_T40 l0 x7_1).f0) x12_4) then (cotterlaw07_LinkKeeps.l3 k4 l0 x5_1 x6_1 x7_1 x9_3 (wrap64 (x12_4 + 1)) t196 t197 t200 ((rd_T40 l0 x7_1).f0) ((rd_T40 l0 x7_1).f1) ((rd_T40 l0 x7_1).f2) ((rd_T40 l0 x7_1).f3)) else (some false)) else (none)) else (none)) = some r := by rw [if_neg (show ¬ (false = true) by decide)] at H; exact H
                                          clear H
                                          have H := H1
                                          clear H1
                                          obtain ⟨ji62, hji62⟩ : ∃ j_ : Int, (wrap64 (x5_1 + x12_4)) = j_ := ⟨_, rfl⟩
                                          replace H : (if 0 ≤ (ji62) then (if (ji62) < (t196.size : Int) then (if (bt t196 (ji62)) = (bt ((rd_T40 l0 x7_1).f0) x12_4) then (cotterlaw07_LinkKeeps.l3 k4 l0 x5_1 x6_1 x7_1 x9_3 (wrap64 (x12_4 + 1)) t196 t197 t200 ((rd_T40 l0 x7_1).f0) ((rd_T40 l0 x7_1).f1) ((rd_T40 l0 x7_1).f2) ((rd_T40 l0 x7_1).f3)) else (some false)) else (none)) else (none)) = some r := by first | (rw [hji62] at H; exact H) | (simp only [hji62] at H ⊢; exact H)
                                          have hji62w : (IntKind.i64.wrap (x5_1 + x12_4)) = ji62 := (i64_w _).trans hji62
                                          by_cases c63 : 0 ≤ (ji62)
                                          · rw [if_pos c63] at H
                                            have c63b0 : decide (0 ≤ (ji62)) = true := decide_eq_true c63
                                            clear c63
                                            by_cases c64 : (ji62) < (t196.size : Int)
                                            · rw [if_pos c64] at H
                                              have c64b0 : decide ((ji62) < (t196.size : Int)) = true := decide_eq_true c64
                                              clear c64
                                              by_cases c67 : (bt t196 (ji62)) = (bt ((rd_T40 l0 x7_1).f0) x12_4)
                                              · rw [if_pos c67] at H
                                                have c67b0 : ((bt t196 (ji62)) == (bt ((rd_T40 l0 x7_1).f0) x12_4)) = true := beq_iff_eq.mpr c67
                                                have c67b1 : ((bt t196 (ji62)) != (bt ((rd_T40 l0 x7_1).f0) x12_4)) = false := bne_eq_false_iff_eq.mpr c67
                                                clear c67
                                                have H' := Aside0.mk H
                                                clear H
                                                have hnb68 := NB209_204.out
                                                have hnc68 := NB204_209.out
                                                have hcz69_0 : wr.cell? ⟨gb209, 0, none⟩ = some (.string ((rd_T40 l0 x7_1).f0)) := (blk_cell BK209.out 0).trans rfl
                                                have hcz69_1 : wr.cell? ⟨gb209, 1, none⟩ = some (.slice A208_1 ((rd_T40 l0 x7_1).f1).length c208_1) := (blk_cell BK209.out 1).trans rfl
                                                have hcz69_2 : wr.cell? ⟨gb209, 2, none⟩ = some (.slice A208_2 ((rd_T40 l0 x7_1).f2).length c208_2) := (blk_cell BK209.out 2).trans rfl
                                                have hcz69_3 : wr.cell? ⟨gb209, 3, none⟩ = some (.slice A208_3 ((rd_T40 l0 x7_1).f3).length c208_3) := (blk_cell BK209.out 3).trans rfl
                                                have hfz69_0 := blk_frozen BK209.out 0
                                                have hfz69_1 := blk_frozen BK209.out 1
                                                have hfz69_2 := blk_frozen BK209.out 2
                                                have hfz69_3 := blk_frozen BK209.out 3
                                                try go_wp2
                                                have o_HO_9 := HO_9
                                                have n0_ := Aside0.mk (Kd.R_drew HO_9.out)
                                                have o_HO_205001 := HO_205001
                                                have n1_ := Aside0.mk (Kd.R_drew HO_205001.out)
                                                have o_HO_205002 := HO_205002
                                                have n2_ := Aside0.mk (Kd.R_drew HO_205002.out)
                                                have o_BK204 := BK204
                                                have n3_ := Aside0.mk (blk_drew BK204.out)
                                                have o_BK209 := BK209
                                                have n4_ := Aside0.mk (blk_drew BK209.out)
                                                have o_HB := HB
                                                have n5_ := Aside0.mk (below_drew1 HB.out)
                                                clear HO_9
                                                clear HO_205001
                                                clear HO_205002
                                                clear BK204
                                                clear BK209
                                                clear HB
                                                have HO_9 := n0_
                                                have HO_205001 := n1_
                                                have HO_205002 := n2_
                                                have BK204 := n3_
                                                have BK209 := n4_
                                                have HB := n5_
                                                clear n0_ n1_ n2_ n3_ n4_ n5_
                                                obtain ⟨Ao71, co71, eo71⟩ := Kd.R_slice HO_9.out
                                                (first | subst eo71 | (injection eo71 with f1_ f2_ f3_; have f4_ := f1_.symm; have f5_ := f3_.symm; clear f1_ f2_ f3_; subst f4_; subst f5_))
                                                have p220 : 0 ≤ (x12_4 : Int) := of_decide_eq_true (by first | (with_reducible assumption) | assumption)
                                                have q220 : x12_4 < (x9_3.length : Int) := of_decide_eq_true (by first | (with_reducible assumption) | assumption)
                                                obtain ⟨ad220, e220, hx220_0⟩ := Kd.at_bool (Kd.R_reads' HO_9.out).2.2 x12_4 p220 q220
                                                (try rw [← Nbq56.out] at hx220_0)
                                                cases e220
                                                replace p220 := eq_true p220
                                                replace q220 := eq_true q220
                                                have p65 : 0 ≤ ((ji62) : Int) := of_decide_eq_true (by first | (with_reducible assumption) | assumption)
                                                have q65 : (ji62) < (t196.size : Int) := of_decide_eq_true (by first | (with_reducible assumption) | assumption)
                                                have hx65 := bt_at t196 (ji62)
                                                replace p65 := eq_true p65
                                                replace q65 := eq_true q65
                                                have p66 : 0 ≤ (x12_4 : Int) := of_decide_eq_true (by first | (with_reducible assumption) | assumption)
                                                have q66 : x12_4 < (((rd_T40 l0 x7_1).f0).size : Int) := of_decide_eq_true (by first | (with_reducible assumption) | assumption)
                                                have hx66 := bt_at ((rd_T40 l0 x7_1).f0) x12_4
                                                replace p66 := eq_true p66
                                                replace q66 := eq_true q66
                                                refine start_ (n := 18) (S := fun w' => w'.cell? ⟨gb204, 0, none⟩ = some (.string t196) ∧ w'.cell? ⟨gb204, 1, none⟩ = some (.slice Ao9 t197.length co9) ∧ w'.cell? ⟨gb204, 2, none⟩ = some (.slice Ao10 t200.length co10) ∧ w'.cell? ⟨gb209, 0, none⟩ = some (.string ((rd_T40 l0 x7_1).f0)) ∧ w'.cell? ⟨gb209, 1, none⟩ = some (.slice A208_1 ((rd_T40 l0 x7_1).f1).length c208_1) ∧ w'.cell? ⟨gb209, 2, none⟩ = some (.slice A208_2 ((rd_T40 l0 x7_1).f2).length c208_2) ∧ w'.cell? ⟨gb209, 3, none⟩ = some (.slice A208_3 ((rd_T40 l0 x7_1).f3).length c208_3) ∧ w'.cell? (ad220.add (x12_4).toNat) = some (.bool false)) (ds := []) #[false, false, false, false, false, false, false, false, false, false, false, false, false, false, false, false, false, false] (by kernel_rfl) rfl rfl ⟨(blk_cell BK204.out 0).trans rfl, (blk_cell BK204.out 1).trans rfl, (blk_cell BK204.out 2).trans rfl, (blk_cell BK209.out 0).trans rfl, (blk_cell BK209.out 1).trans rfl, (blk_cell BK209.out 2).trans rfl, (blk_cell BK209.out 3).trans rfl, hx220_0⟩ (fun hHeld => ?_); refine with_tabW cotterlaw07_LinkKeeps.tab25 cotterlaw07_LinkKeeps.bits25 (fun HT_ HW_ => ?_)
                                                generalize wr.drew = w70 at HO_9 HO_205001 HO_205002 BK204 BK209 HB hx220_0 hHeld ⊢
                                                refine pure_ (i := 0) (N := some 107) (v := ?_) (a' := ?_) #[true, false, false, false, false, false, false, false, false, false, false, false, false, false, false, false, false, false] rfl rfl (any_of HT_.out (by kernel_rfl)) (fun _ _ _ h => h) (Or.inl ⟨by rfl, ?_⟩) ?_ ?_
                                                rotate_left
                                                · intro w'
                                                  go_simp
                                                  with_reducible rfl
                                                rotate_left
                                                · simp only [Act.put, List.setIfInBounds_toArray, List.set_cons_zero, List.set_cons_succ, i64_w, i32_w]
                                                  rfl
                                                refine pure_ (i := 1) (N := some 108) (v := ?_) (a' := ?_) #[true, true, false, false, false, false, false, false, false, false, false, false, false, false, false, false, false, false] rfl rfl (any_of HT_.out (by kernel_rfl)) (fun _ _ _ h => h) (Or.inl ⟨by rfl, ?_⟩) ?_ ?_
                                                rotate_left
                                                · intro w'
                                                  go_simp
                                                  with_reducible rfl
                                                rotate_left
                                                · simp only [Act.put, List.setIfInBounds_toArray, List.set_cons_zero, List.set_cons_succ, i64_w, i32_w]
                                                  rfl
                                                refine pure_ (i := 2) (N := some 109) (v := ?_) (a' := ?_) #[true, true, true, false, false, false, false, false, false, false, false, false, false, false, false, false, false, false] rfl rfl (any_of HT_.out (by kernel_rfl)) (fun _ _ _ h => h) (Or.inl ⟨by rfl, ?_⟩) ?_ ?_
                                                rotate_left
                                                · intro w'
                                                  go_simp
                                                  with_reducible rfl
                                                rotate_left
                                                · simp only [Act.put, List.setIfInBounds_toArray, List.set_cons_zero, List.set_cons_succ, i64_w, i32_w]
                                                  rfl
                                                refine take_ (i := 3) (N := some 110) (v := ?_) (a' := ?_) #[true, true, true, true, false, false, false, false, false, false, false, false, false, false, false, false, false, false] rfl rfl (take_ofW HT_.out HW_.out (by kernel_rfl)) (fun _ _ _ h => h) (Or.inl ⟨by rfl, ?_⟩) hHeld ?_ ?_
                                                rotate_left
                                                · rintro w' ⟨s0, s1, s2, s3, s4, s5, s6, s7⟩
                                                  go_simp
                                                  with_reducible rfl
                                                rotate_left
                                                · simp only [Act.put, List.setIfInBounds_toArray, List.set_cons_zero, List.set_cons_succ, i64_w, i32_w]
                                                  rfl
                                                refine pure_ (i := 4) (N := some 111) (v := ?_) (a' := ?_) #[true, true, true, true, true, false, false, false, false, false, false, false, false, false, false, false, false, false] rfl rfl (any_of HT_.out (by kernel_rfl)) (fun _ _ _ h => h) (Or.inl ⟨by rfl, ?_⟩) ?_ ?_
                                                rotate_left
                                                · intro w'
                                                  go_simp
                                                  with_reducible rfl
                                                rotate_left
                                                · simp only [Act.put, List.setIfInBounds_toArray, List.set_cons_zero, List.set_cons_succ, i64_w, i32_w]
                                                  rfl
                                                refine pure_ (i := 5) (N := some 112) (v := ?_) (a' := ?_) #[true, true, true, true, true, true, false, false, false, false, false, false, false, false, false, false, false, false] rfl rfl (any_of HT_.out (by kernel_rfl)) (fun _ _ _ h => h) (Or.inl ⟨by rfl, ?_⟩) ?_ ?_
                                                rotate_left
                                                · intro w'
                                                  go_simp
                                                  with_reducible rfl
                                                rotate_left
                                                · simp only [Act.put, List.setIfInBounds_toArray, List.set_cons_zero, List.set_cons_succ, i64_w, i32_w]
                                                  rfl
                                                refine pure_ (i := 6) (N := some 113) (v := ?_) (a' := ?_) #[true, true, true, true, true, true, true, false, false, false, false, false, false, false, false, false, false, false] rfl rfl (any_of HT_.out (by kernel_rfl)) (fun _ _ _ h => h) (Or.inl ⟨by rfl, ?_⟩) ?_ ?_
                                                rotate_left
                                                · intro w'
                                                  go_simp
                                                  with_reducible rfl
                                                rotate_left
                                                · simp only [Act.put, List.setIfInBounds_toArray, List.set_cons_zero, List.set_cons_succ, i64_w, i32_w]
                                                  rfl
                                                refine pure_ (i := 8) (N := some 115) (v := ?_) (a' := ?_) #[true, true, true, true, true, true, true, false, true, false, false, false, false, false, false, false, false, false] rfl rfl (any_of HT_.out (by kernel_rfl)) (fun _ _ _ h => h) (Or.inl ⟨by rfl, ?_⟩) ?_ ?_
                                                rotate_left
                                                · intro w'
                                                  go_simp
                                                  with_reducible rfl
                                                rotate_left
                                                · simp only [Act.put, List.setIfInBounds_toArray, List.set_cons_zero, List.set_cons_succ, i64_w, i32_w]
                                                  rfl
                                                refine pure_ (i := 9) (N := some 116) (v := ?_) (a' := ?_) #[true, true, true, true, true, true, true, false, true, true, false, false, false, false, false, false, false, false] rfl rfl (any_of HT_.out (by kernel_rfl)) (fun _ _ _ h => h) (Or.inl ⟨by rfl, ?_⟩) ?_ ?_
                                                rotate_left
                                                · intro w'
                                                  go_simp
                                                  with_reducible rfl
                                                rotate_left
                                                · simp only [Act.put, List.setIfInBounds_toArray, List.set_cons_zero, List.set_cons_succ, i64_w, i32_w]
                                                  rfl
                                                refine pure_ (i := 10) (N := some 117) (v := ?_) (a' := ?_) #[true, true, true, true, true, true, true, false, true, true, true, false, false, false, false, false, false, false] rfl rfl (any_of HT_.out (by kernel_rfl)) (fun _ _ _ h => h) (Or.inl ⟨by rfl, ?_⟩) ?_ ?_
                                                rotate_left
                                                · intro w'
                                                  go_simp
                                                  with_reducible rfl
                                                rotate_left
                                                · simp only [Act.put, List.setIfInBounds_toArray, List.set_cons_zero, List.set_cons_succ, i64_w, i32_w]
                                                  rfl
                                                refine pure_ (i := 12) (N := some 119) (v := ?_) (a' := ?_) #[true, true, true, true, true, true, true, false, true, true, true, false, true, false, false, false, false, false] rfl rfl (any_of HT_.out (by kernel_rfl)) (fun _ _ _ h => h) (Or.inl ⟨by rfl, ?_⟩) ?_ ?_
                                                rotate_left
                                                · intro w'
                                                  go_simp
                                                  with_reducible rfl
                                                rotate_left
                                                · simp only [Act.put, List.setIfInBounds_toArray, List.set_cons_zero, List.set_cons_succ, i64_w, i32_w]
                                                  rfl
                                                refine pure_ (i := 14) (N := some 121) (v := ?_) (a' := ?_) #[true, true, true, true, true, true, true, false, true, true, true, false, true, false, true, false, false, false] rfl rfl (any_of HT_.out (by kernel_rfl)) (fun _ _ _ h => h) (Or.inl ⟨by rfl, ?_⟩) ?_ ?_
                                                rotate_left
                                                · intro w'
                                                  go_simp
                                                  with_reducible rfl
                                                rotate_left
                                                · simp only [Act.put, List.setIfInBounds_toArray, List.set_cons_zero, List.set_cons_succ, i64_w, i32_w]
                                                  rfl
                                                refine take_ (i := 7) (N := some 114) (v := ?_) (a' := ?_) #[true, true, true, true, true, true, true, true, true, true, true, false, true, false, true, false, false, false] rfl rfl (take_ofW HT_.out HW_.out (by kernel_rfl)) (fun _ _ _ h => h) (Or.inl ⟨by rfl, ?_⟩) hHeld ?_ ?_
                                                rotate_left
                                                · rintro w' ⟨s0, s1, s2, s3, s4, s5, s6, s7⟩
                                                  go_simp
                                                  with_reducible rfl
                                                rotate_left
                                                · simp only [Act.put, List.setIfInBounds_toArray, List.set_cons_zero, List.set_cons_succ, i64_w, i32_w]
                                                  rfl
                                                refine take_ (i := 11) (N := some 118) (v := ?_) (a' := ?_) #[true, true, true, true, true, true, true, true, true, true, true, true, true, false, true, false, false, false] rfl rfl (take_ofW HT_.out HW_.out (by kernel_rfl)) (fun _ _ _ h => h) (Or.inl ⟨by rfl, ?_⟩) hHeld ?_ ?_
                                                rotate_left
                                                · rintro w' ⟨s0, s1, s2, s3, s4, s5, s6, s7⟩
                                                  go_simp
                                                  with_reducible rfl
                                                rotate_left
                                                · simp only [Act.put, List.setIfInBounds_toArray, List.set_cons_zero, List.set_cons_succ, i64_w, i32_w]
                                                  rfl
                                                refine take_ (i := 13) (N := some 120) (v := ?_) (a' := ?_) #[true, true, true, true, true, true, true, true, true, true, true, true, true, true, true, false, false, false] rfl rfl (take_ofW HT_.out HW_.out (by kernel_rfl)) (fun _ _ _ h => h) (Or.inl ⟨by rfl, ?_⟩) hHeld ?_ ?_
                                                rotate_left
                                                · rintro w' ⟨s0, s1, s2, s3, s4, s5, s6, s7⟩
                                                  go_simp
                                                  with_reducible rfl
                                                rotate_left
                                                · simp only [Act.put, List.setIfInBounds_toArray, List.set_cons_zero, List.set_cons_succ, i64_w, i32_w]
                                                  rfl
                                                refine take_ (i := 15) (N := some 122) (v := ?_) (a' := ?_) #[true, true, true, true, true, true, true, true, true, true, true, true, true, true, true, true, false, false] rfl rfl (take_ofW HT_.out HW_.out (by kernel_rfl)) (fun _ _ _ h => h) (Or.inl ⟨by rfl, ?_⟩) hHeld ?_ ?_
                                                rotate_left
                                                · rintro w' ⟨s0, s1, s2, s3, s4, s5, s6, s7⟩
                                                  go_simp
                                                  with_reducible rfl
                                                rotate_left
                                                · simp only [Act.put, List.setIfInBounds_toArray, List.set_cons_zero, List.set_cons_succ, i64_w, i32_w]
                                                  rfl
                                                refine pure_ (i := 16) (N := some 123) (v := ?_) (a' := ?_) #[true, true, true, true, true, true, true, true, true, true, true, true, true, true, true, true, true, false] rfl rfl (any_of HT_.out (by kernel_rfl)) (fun _ _ _ h => h) (Or.inl ⟨by rfl, ?_⟩) ?_ ?_
                                                rotate_left
                                                · intro w'
                                                  go_simp
                                                  with_reducible rfl
                                                rotate_left
                                                · simp only [Act.put, List.setIfInBounds_toArray, List.set_cons_zero, List.set_cons_succ, i64_w, i32_w]
                                                  rfl
                                                refine pure_ (i := 17) (N := some 124) (v := ?_) (a' := ?_) #[true, true, true, true, true, true, true, true, true, true, true, true, true, true, true, true, true, true] rfl rfl (any_of HT_.out (by kernel_rfl)) (fun _ _ _ h => h) (Or.inl ⟨by rfl, ?_⟩) ?_ ?_
                                                rotate_left
                                                · intro w'
                                                  go_simp
                                                  with_reducible rfl
                                                rotate_left
                                                · simp only [Act.put, List.setIfInBounds_toArray, List.set_cons_zero, List.set_cons_succ, i64_w, i32_w]
                                                  rfl
                                                refine done_ (done_of HT_.out (by kernel_rfl)) ?_
                                                try go_wp2
                                                go_roundg k4
                                                case measure => have := HK1.out; have := HJ12.out; have := HK3.out; have := HK4.out; omega
                                                case rel => exact ⟨(wrap64 (x12_4 + 1)), (by first | rfl | (simp; done) | (simp [*]; done)), H', ⟨by have := HK1.out; have := HJ12.out; have := HK3.out; have := HK4.out; omega⟩, ⟨by (with_reducible repeat (first | apply Kd.R_alloc | apply Kd.R_drewN | apply Kd.R_drew)); exact HO_9.out⟩, ⟨by (with_reducible repeat (first | apply Kd.R_alloc | apply Kd.R_drewN | apply Kd.R_drew)); exact HO_205001.out⟩, ⟨by (with_reducible repeat (first | apply Kd.R_alloc | apply Kd.R_drewN | apply Kd.R_drew)); exact HO_205002.out⟩, ⟨by (with_reducible repeat (first | refine blk_drewN ?_ _ | refine blk_drew ?_ | refine blk_alloc ?_ _)); exact BK204.out⟩, ⟨by (with_reducible repeat (first | refine blk_drewN ?_ _ | refine blk_drew ?_ | refine blk_alloc ?_ _)); exact BK209.out⟩, ⟨by repeat (first | (with_reducible first | exact HB.out | apply below_alloc | apply pw_below_drewN | apply below_drew1 | refine below_set ?_ GE204.out | refine below_set ?_ GE209.out) | exact HB.out)⟩⟩
                                              · rw [if_neg c67] at H
                                                have c67b0 : ((bt t196 (ji62)) == (bt ((rd_T40 l0 x7_1).f0) x12_4)) = false := beq_eq_false_iff_ne.mpr c67
                                                have c67b1 : ((bt t196 (ji62)) != (bt ((rd_T40 l0 x7_1).f0) x12_4)) = true := bne_iff_ne.mpr c67
                                                obtain rfl := Option.some.inj H
                                                have hnb72 := NB209_204.out
                                                have hnc72 := NB204_209.out
                                                have hcz73_0 : wr.cell? ⟨gb209, 0, none⟩ = some (.string ((rd_T40 l0 x7_1).f0)) := (blk_cell BK209.out 0).trans rfl
                                                have hcz73_1 : wr.cell? ⟨gb209, 1, none⟩ = some (.slice A208_1 ((rd_T40 l0 x7_1).f1).length c208_1) := (blk_cell BK209.out 1).trans rfl
                                                have hcz73_2 : wr.cell? ⟨gb209, 2, none⟩ = some (.slice A208_2 ((rd_T40 l0 x7_1).f2).length c208_2) := (blk_cell BK209.out 2).trans rfl
                                                have hcz73_3 : wr.cell? ⟨gb209, 3, none⟩ = some (.slice A208_3 ((rd_T40 l0 x7_1).f3).length c208_3) := (blk_cell BK209.out 3).trans rfl
                                                have hfz73_0 := blk_frozen BK209.out 0
                                                have hfz73_1 := blk_frozen BK209.out 1
                                                have hfz73_2 := blk_frozen BK209.out 2
                                                have hfz73_3 := blk_frozen BK209.out 3
                                                try go_wp2
                                                have o_HO_9 := HO_9
                                                have n0_ := Aside0.mk (Kd.R_drew HO_9.out)
                                                have o_HO_205001 := HO_205001
                                                have n1_ := Aside0.mk (Kd.R_drew HO_205001.out)
                                                have o_HO_205002 := HO_205002
                                                have n2_ := Aside0.mk (Kd.R_drew HO_205002.out)
                                                have o_BK204 := BK204
                                                have n3_ := Aside0.mk (blk_drew BK204.out)
                                                have o_BK209 := BK209
                                                have n4_ := Aside0.mk (blk_drew BK209.out)
                                                have o_HB := HB
                                                have n5_ := Aside0.mk (below_drew1 HB.out)
                                                clear HO_9
                                                clear HO_205001
                                                clear HO_205002
                                                clear BK204
                                                clear BK209
                                                clear HB
                                                have HO_9 := n0_
                                                have HO_205001 := n1_
                                                have HO_205002 := n2_
                                                have BK204 := n3_
                                                have BK209 := n4_
                                                have HB := n5_
                                                clear n0_ n1_ n2_ n3_ n4_ n5_
                                                obtain ⟨Ao75, co75, eo75⟩ := Kd.R_slice HO_9.out
                                                (first | subst eo75 | (injection eo75 with f1_ f2_ f3_; have f4_ := f1_.symm; have f5_ := f3_.symm; clear f1_ f2_ f3_; subst f4_; subst f5_))
                                                have p220 : 0 ≤ (x12_4 : Int) := of_decide_eq_true (by first | (with_reducible assumption) | assumption)
                                                have q220 : x12_4 < (x9_3.length : Int) := of_decide_eq_true (by first | (with_reducible assumption) | assumption)
                                                obtain ⟨ad220, e220, hx220_0⟩ := Kd.at_bool (Kd.R_reads' HO_9.out).2.2 x12_4 p220 q220
                                                (try rw [← Nbq56.out] at hx220_0)
                                                cases e220
                                                replace p220 := eq_true p220
                                                replace q220 := eq_true q220
                                                have p65 : 0 ≤ ((ji62) : Int) := of_decide_eq_true (by first | (with_reducible assumption) | assumption)
                                                have q65 : (ji62) < (t196.size : Int) := of_decide_eq_true (by first | (with_reducible assumption) | assumption)
                                                have hx65 := bt_at t196 (ji62)
                                                replace p65 := eq_true p65
                                                replace q65 := eq_true q65
                                                have p66 : 0 ≤ (x12_4 : Int) := of_decide_eq_true (by first | (with_reducible assumption) | assumption)
                                                have q66 : x12_4 < (((rd_T40 l0 x7_1).f0).size : Int) := of_decide_eq_true (by first | (with_reducible assumption) | assumption)
                                                have hx66 := bt_at ((rd_T40 l0 x7_1).f0) x12_4
                                                replace p66 := eq_true p66
                                                replace q66 := eq_true q66
                                                refine start_ (n := 18) (S := fun w' => w'.cell? ⟨gb204, 0, none⟩ = some (.string t196) ∧ w'.cell? ⟨gb204, 1, none⟩ = some (.slice Ao9 t197.length co9) ∧ w'.cell? ⟨gb204, 2, none⟩ = some (.slice Ao10 t200.length co10) ∧ w'.cell? ⟨gb209, 0, none⟩ = some (.string ((rd_T40 l0 x7_1).f0)) ∧ w'.cell? ⟨gb209, 1, none⟩ = some (.slice A208_1 ((rd_T40 l0 x7_1).f1).length c208_1) ∧ w'.cell? ⟨gb209, 2, none⟩ = some (.slice A208_2 ((rd_T40 l0 x7_1).f2).length c208_2) ∧ w'.cell? ⟨gb209, 3, none⟩ = some (.slice A208_3 ((rd_T40 l0 x7_1).f3).length c208_3) ∧ w'.cell? (ad220.add (x12_4).toNat) = some (.bool false)) (ds := []) #[false, false, false, false, false, false, false, false, false, false, false, false, false, false, false, false, false, false] (by kernel_rfl) rfl rfl ⟨(blk_cell BK204.out 0).trans rfl, (blk_cell BK204.out 1).trans rfl, (blk_cell BK204.out 2).trans rfl, (blk_cell BK209.out 0).trans rfl, (blk_cell BK209.out 1).trans rfl, (blk_cell BK209.out 2).trans rfl, (blk_cell BK209.out 3).trans rfl, hx220_0⟩ (fun hHeld => ?_); refine with_tabW cotterlaw07_LinkKeeps.tab25 cotterlaw07_LinkKeeps.bits25 (fun HT_ HW_ => ?_)
                                                generalize wr.drew = w74 at HO_9 HO_205001 HO_205002 BK204 BK209 HB hx220_0 hHeld ⊢
                                                refine pure_ (i := 0) (N := some 107) (v := ?_) (a' := ?_) #[true, false, false, false, false, false, false, false, false, false, false, false, false, false, false, false, false, false] rfl rfl (any_of HT_.out (by kernel_rfl)) (fun _ _ _ h => h) (Or.inl ⟨by rfl, ?_⟩) ?_ ?_
                                                rotate_left
                                                · intro w'
                                                  go_simp
                                                  with_reducible rfl
                                                rotate_left
                                                · simp only [Act.put, List.setIfInBounds_toArray, List.set_cons_zero, List.set_cons_succ, i64_w, i32_w]
                                                  rfl
                                                refine pure_ (i := 1) (N := some 108) (v := ?_) (a' := ?_) #[true, true, false, false, false, false, false, false, false, false, false, false, false, false, false, false, false, false] rfl rfl (any_of HT_.out (by kernel_rfl)) (fun _ _ _ h => h) (Or.inl ⟨by rfl, ?_⟩) ?_ ?_
                                                rotate_left
                                                · intro w'
                                                  go_simp
                                                  with_reducible rfl
                                                rotate_left
                                                · simp only [Act.put, List.setIfInBounds_toArray, List.set_cons_zero, List.set_cons_succ, i64_w, i32_w]
                                                  rfl
                                                refine pure_ (i := 2) (N := some 109) (v := ?_) (a' := ?_) #[true, true, true, false, false, false, false, false, false, false, false, false, false, false, false, false, false, false] rfl rfl (any_of HT_.out (by kernel_rfl)) (fun _ _ _ h => h) (Or.inl ⟨by rfl, ?_⟩) ?_ ?_
                                                rotate_left
                                                · intro w'
                                                  go_simp
                                                  with_reducible rfl
                                                rotate_left
                                                · simp only [Act.put, List.setIfInBounds_toArray, List.set_cons_zero, List.set_cons_succ, i64_w, i32_w]
                                                  rfl
                                                refine take_ (i := 3) (N := some 110) (v := ?_) (a' := ?_) #[true, true, true, true, false, false, false, false, false, false, false, false, false, false, false, false, false, false] rfl rfl (take_ofW HT_.out HW_.out (by kernel_rfl)) (fun _ _ _ h => h) (Or.inl ⟨by rfl, ?_⟩) hHeld ?_ ?_
                                                rotate_left
                                                · rintro w' ⟨s0, s1, s2, s3, s4, s5, s6, s7⟩
                                                  go_simp
                                                  with_reducible rfl
                                                rotate_left
                                                · simp only [Act.put, List.setIfInBounds_toArray, List.set_cons_zero, List.set_cons_succ, i64_w, i32_w]
                                                  rfl
                                                refine pure_ (i := 4) (N := some 111) (v := ?_) (a' := ?_) #[true, true, true, true, true, false, false, false, false, false, false, false, false, false, false, false, false, false] rfl rfl (any_of HT_.out (by kernel_rfl)) (fun _ _ _ h => h) (Or.inl ⟨by rfl, ?_⟩) ?_ ?_
                                                rotate_left
                                                · intro w'
                                                  go_simp
                                                  with_reducible rfl
                                                rotate_left
                                                · simp only [Act.put, List.setIfInBounds_toArray, List.set_cons_zero, List.set_cons_succ, i64_w, i32_w]
                                                  rfl
                                                refine pure_ (i := 5) (N := some 112) (v := ?_) (a' := ?_) #[true, true, true, true, true, true, false, false, false, false, false, false, false, false, false, false, false, false] rfl rfl (any_of HT_.out (by kernel_rfl)) (fun _ _ _ h => h) (Or.inl ⟨by rfl, ?_⟩) ?_ ?_
                                                rotate_left
                                                · intro w'
                                                  go_simp
                                                  with_reducible rfl
                                                rotate_left
                                                · simp only [Act.put, List.setIfInBounds_toArray, List.set_cons_zero, List.set_cons_succ, i64_w, i32_w]
                                                  rfl
                                                refine pure_ (i := 6) (N := some 113) (v := ?_) (a' := ?_) #[true, true, true, true, true, true, true, false, false, false, false, false, false, false, false, false, false, false] rfl rfl (any_of HT_.out (by kernel_rfl)) (fun _ _ _ h => h) (Or.inl ⟨by rfl, ?_⟩) ?_ ?_
                                                rotate_left
                                                · intro w'
                                                  go_simp
                                                  with_reducible rfl
                                                rotate_left
                                                · simp only [Act.put, List.setIfInBounds_toArray, List.set_cons_zero, List.set_cons_succ, i64_w, i32_w]
                                                  rfl
                                                refine pure_ (i := 8) (N := some 115) (v := ?_) (a' := ?_) #[true, true, true, true, true, true, true, false, true, false, false, false, false, false, false, false, false, false] rfl rfl (any_of HT_.out (by kernel_rfl)) (fun _ _ _ h => h) (Or.inl ⟨by rfl, ?_⟩) ?_ ?_
                                                rotate_left
                                                · intro w'
                                                  go_simp
                                                  with_reducible rfl
                                                rotate_left
                                                · simp only [Act.put, List.setIfInBounds_toArray, List.set_cons_zero, List.set_cons_succ, i64_w, i32_w]
                                                  rfl
                                                refine pure_ (i := 9) (N := some 116) (v := ?_) (a' := ?_) #[true, true, true, true, true, true, true, false, true, true, false, false, false, false, false, false, false, false] rfl rfl (any_of HT_.out (by kernel_rfl)) (fun _ _ _ h => h) (Or.inl ⟨by rfl, ?_⟩) ?_ ?_
                                                rotate_left
                                                · intro w'
                                                  go_simp
                                                  with_reducible rfl
                                                rotate_left
                                                · simp only [Act.put, List.setIfInBounds_toArray, List.set_cons_zero, List.set_cons_succ, i64_w, i32_w]
                                                  rfl
                                                refine pure_ (i := 10) (N := some 117) (v := ?_) (a' := ?_) #[true, true, true, true, true, true, true, false, true, true, true, false, false, false, false, false, false, false] rfl rfl (any_of HT_.out (by kernel_rfl)) (fun _ _ _ h => h) (Or.inl ⟨by rfl, ?_⟩) ?_ ?_
                                                rotate_left
                                                · intro w'
                                                  go_simp
                                                  with_reducible rfl
                                                rotate_left
                                                · simp only [Act.put, List.setIfInBounds_toArray, List.set_cons_zero, List.set_cons_succ, i64_w, i32_w]
                                                  rfl
                                                refine pure_ (i := 12) (N := some 119) (v := ?_) (a' := ?_) #[true, true, true, true, true, true, true, false, true, true, true, false, true, false, false, false, false, false] rfl rfl (any_of HT_.out (by kernel_rfl)) (fun _ _ _ h => h) (Or.inl ⟨by rfl, ?_⟩) ?_ ?_
                                                rotate_left
                                                · intro w'
                                                  go_simp
                                                  with_reducible rfl
                                                rotate_left
                                                · simp only [Act.put, List.setIfInBounds_toArray, List.set_cons_zero, List.set_cons_succ, i64_w, i32_w]
                                                  rfl
                                                refine pure_ (i := 14) (N := some 121) (v := ?_) (a' := ?_) #[true, true, true, true, true, true, true, false, true, true, true, false, true, false, true, false, false, false] rfl rfl (any_of HT_.out (by kernel_rfl)) (fun _ _ _ h => h) (Or.inl ⟨by rfl, ?_⟩) ?_ ?_
                                                rotate_left
                                                · intro w'
                                                  go_simp
                                                  with_reducible rfl
                                                rotate_left
                                                · simp only [Act.put, List.setIfInBounds_toArray, List.set_cons_zero, List.set_cons_succ, i64_w, i32_w]
                                                  rfl
                                                refine take_ (i := 7) (N := some 114) (v := ?_) (a' := ?_) #[true, true, true, true, true, true, true, true, true, true, true, false, true, false, true, false, false, false] rfl rfl (take_ofW HT_.out HW_.out (by kernel_rfl)) (fun _ _ _ h => h) (Or.inl ⟨by rfl, ?_⟩) hHeld ?_ ?_
                                                rotate_left
                                                · rintro w' ⟨s0, s1, s2, s3, s4, s5, s6, s7⟩
                                                  go_simp
                                                  with_reducible rfl
                                                rotate_left
                                                · simp only [Act.put, List.setIfInBounds_toArray, List.set_cons_zero, List.set_cons_succ, i64_w, i32_w]
                                                  rfl
                                                refine take_ (i := 11) (N := some 118) (v := ?_) (a' := ?_) #[true, true, true, true, true, true, true, true, true, true, true, true, true, false, true, false, false, false] rfl rfl (take_ofW HT_.out HW_.out (by kernel_rfl)) (fun _ _ _ h => h) (Or.inl ⟨by rfl, ?_⟩) hHeld ?_ ?_
                                                rotate_left
                                                · rintro w' ⟨s0, s1, s2, s3, s4, s5, s6, s7⟩
                                                  go_simp
                                                  with_reducible rfl
                                                rotate_left
                                                · simp only [Act.put, List.setIfInBounds_toArray, List.set_cons_zero, List.set_cons_succ, i64_w, i32_w]
                                                  rfl
                                                refine take_ (i := 13) (N := some 120) (v := ?_) (a' := ?_) #[true, true, true, true, true, true, true, true, true, true, true, true, true, true, true, false, false, false] rfl rfl (take_ofW HT_.out HW_.out (by kernel_rfl)) (fun _ _ _ h => h) (Or.inl ⟨by rfl, ?_⟩) hHeld ?_ ?_
                                                rotate_left
                                                · rintro w' ⟨s0, s1, s2, s3, s4, s5, s6, s7⟩
                                                  go_simp
                                                  with_reducible rfl
                                                rotate_left
                                                · simp only [Act.put, List.setIfInBounds_toArray, List.set_cons_zero, List.set_cons_succ, i64_w, i32_w]
                                                  rfl
                                                refine take_ (i := 15) (N := some 122) (v := ?_) (a' := ?_) #[true, true, true, true, true, true, true, true, true, true, true, true, true, true, true, true, false, false] rfl rfl (take_ofW HT_.out HW_.out (by kernel_rfl)) (fun _ _ _ h => h) (Or.inl ⟨by rfl, ?_⟩) hHeld ?_ ?_
                                                rotate_left
                                                · rintro w' ⟨s0, s1, s2, s3, s4, s5, s6, s7⟩
                                                  go_simp
                                                  with_reducible rfl
                                                rotate_left
                                                · simp only [Act.put, List.setIfInBounds_toArray, List.set_cons_zero, List.set_cons_succ, i64_w, i32_w]
                                                  rfl
                                                refine pure_ (i := 16) (N := some 123) (v := ?_) (a' := ?_) #[true, true, true, true, true, true, true, true, true, true, true, true, true, true, true, true, true, false] rfl rfl (any_of HT_.out (by kernel_rfl)) (fun _ _ _ h => h) (Or.inl ⟨by rfl, ?_⟩) ?_ ?_
                                                rotate_left
                                                · intro w'
                                                  go_simp
                                                  with_reducible rfl
                                                rotate_left
                                                · simp only [Act.put, List.setIfInBounds_toArray, List.set_cons_zero, List.set_cons_succ, i64_w, i32_w]
                                                  rfl
                                                refine pure_ (i := 17) (N := some 124) (v := ?_) (a' := ?_) #[true, true, true, true, true, true, true, true, true, true, true, true, true, true, true, true, true, true] rfl rfl (any_of HT_.out (by kernel_rfl)) (fun _ _ _ h => h) (Or.inl ⟨by rfl, ?_⟩) ?_ ?_
                                                rotate_left
                                                · intro w'
                                                  go_simp
                                                  with_reducible rfl
                                                rotate_left
                                                · simp only [Act.put, List.setIfInBounds_toArray, List.set_cons_zero, List.set_cons_succ, i64_w, i32_w]
                                                  rfl
                                                refine done_ (done_of HT_.out (by kernel_rfl)) ?_
                                                try go_wp2
                                                go_ret
                                                exact ⟨by first | rfl | (simp [errW_none, errW_some] <;> rfl) | (simp only [← hji62]; first | rfl | (simp [errW_none, errW_some] <;> rfl)) | (simp [*, errW_none, errW_some] <;> rfl), by repeat (first | (with_reducible first | exact HB.out | apply below_alloc | apply pw_below_drewN | apply below_drew1 | refine below_set ?_ GE204.out | refine below_set ?_ GE209.out) | exact HB.out)⟩
                                            · rw [if_neg c64] at H
                                              exact absurd H (by simp)
                                          · rw [if_neg c63] at H
                                            exact absurd H (by simp)
                                      · rw [if_neg c55] at H
                                        exact absurd H (by simp)
                                    · rw [if_neg c54] at H
                                      exact absurd H (by simp)
                                  · rw [if_neg c53] at H
                                    have c53b0 : decide (x12_4 < (((rd_T40 l0 x7_1).f0).size : Int)) = false := decide_eq_false c53
                                    clear c53
                                    have H' := Aside0.mk H
                                    clear H
                                    have hnb76 := NB209_204.out
                                    have hnc76 := NB204_209.out
                                    have hcz77_0 : wr.cell? ⟨gb209, 0, none⟩ = some (.string ((rd_T40 l0 x7_1).f0)) := (blk_cell BK209.out 0).trans rfl
                                    have hcz77_1 : wr.cell? ⟨gb209, 1, none⟩ = some (.slice A208_1 ((rd_T40 l0 x7_1).f1).length c208_1) := (blk_cell BK209.out 1).trans rfl
                                    have hcz77_2 : wr.cell? ⟨gb209, 2, none⟩ = some (.slice A208_2 ((rd_T40 l0 x7_1).f2).length c208_2) := (blk_cell BK209.out 2).trans rfl
                                    have hcz77_3 : wr.cell? ⟨gb209, 3, none⟩ = some (.slice A208_3 ((rd_T40 l0 x7_1).f3).length c208_3) := (blk_cell BK209.out 3).trans rfl
                                    have hfz77_0 := blk_frozen BK209.out 0
                                    have hfz77_1 := blk_frozen BK209.out 1
                                    have hfz77_2 := blk_frozen BK209.out 2
                                    have hfz77_3 := blk_frozen BK209.out 3
                                    go_wp2
                                    go_roundg k4
                                    case measure => have := HK1.out; have := HJ12.out; have := HK3.out; have := HK4.out; omega
                                    case rel => exact ⟨(wrap64 (x5_1 + (((rd_T40 l0 x7_1).f0).size : Int))), (wrap64 (x6_1 + (((rd_T40 l0 x7_1).f1).length : Int))), (wrap64 (x7_1 + 1)), (by first | rfl | (simp; done) | (simp [*]; done)), (by first | rfl | (simp; done) | (simp [*]; done)), (by first | rfl | (simp; done) | (simp [*]; done)), H', ⟨by have := HK1.out; have := HJ12.out; have := HK3.out; have := HK4.out; omega⟩, ⟨by (with_reducible repeat (first | apply Kd.R_alloc | apply Kd.R_drewN | apply Kd.R_drew)); exact HO_205001.out⟩, ⟨by (with_reducible repeat (first | apply Kd.R_alloc | apply Kd.R_drewN | apply Kd.R_drew)); exact HO_205002.out⟩, ⟨by (with_reducible repeat (first | refine blk_drewN ?_ _ | refine blk_drew ?_ | refine blk_alloc ?_ _)); exact BK204.out⟩, ⟨by repeat (first | (with_reducible first | exact HB.out | apply below_alloc | apply pw_below_drewN | apply below_drew1 | refine below_set ?_ GE204.out | refine below_set ?_ GE209.out) | exact HB.out)⟩⟩
                      · rw [if_neg c32] at H
                        exact absurd H (by simp)
                    · rw [if_neg c31] at H
                      exact absurd H (by simp)
            · rw [if_neg c12] at H
              exact absurd H (by simp)
          · rw [if_neg c11] at H
            have c11b0 : decide (x7_1 < (l0.length : Int)) = false := decide_eq_false c11
            clear c11
            by_cases c78 : x5_1 = (t196.size : Int)
            · rw [if_pos c78] at H
              have c78b0 : (x5_1 == (t196.size : Int)) = true := beq_iff_eq.mpr c78
              have c78b1 : (x5_1 != (t196.size : Int)) = false := bne_eq_false_iff_eq.mpr c78
              clear c78
              by_cases c79 : x6_1 = (t197.length : Int)
              · rw [if_pos c79] at H
                have c79b0 : (x6_1 == (t197.length : Int)) = true := beq_iff_eq.mpr c79
                have c79b1 : (x6_1 != (t197.length : Int)) = false := bne_eq_false_iff_eq.mpr c79
                clear c79
                replace H := Option.bind_eq_some_iff.mp H
                obtain ⟨t207, A800, H⟩ := H
                replace H : (some t207) = some r := H
                have A80 := Aside0.mk A800
                clear A800
                obtain rfl := Option.some.inj H
                have hcz81_0 : wr.cell? ⟨gb204, 0, none⟩ = some (.string t196) := (blk_cell BK204.out 0).trans rfl
                have hcz81_1 : wr.cell? ⟨gb204, 1, none⟩ = some (.slice Ao9 t197.length co9) := (blk_cell BK204.out 1).trans rfl
                have hcz81_2 : wr.cell? ⟨gb204, 2, none⟩ = some (.slice Ao10 t200.length co10) := (blk_cell BK204.out 2).trans rfl
                have hfz81_0 := blk_frozen BK204.out 0
                have hfz81_1 := blk_frozen BK204.out 1
                have hfz81_2 := blk_frozen BK204.out 2
                go_wp2_with (first | (go_at_call 10; (with_reducible refine (cotterlaw07_live.calls  t207 _ A80.out).mono ?_); rintro e w82 ⟨rfl, hb⟩; have n0_ := Aside0.mk (Kd.R_below (by (with_reducible repeat (first | apply Kd.R_alloc | apply Kd.R_drewN | apply Kd.R_drew)); exact HO_205001.out) hb); have n1_ := Aside0.mk (Kd.R_below (by (with_reducible repeat (first | apply Kd.R_alloc | apply Kd.R_drewN | apply Kd.R_drew)); exact HO_205002.out) hb); have n2_ := Aside0.mk (blk_below (g := gb204) (o := .cells #[.string t196, .slice Ao9 t197.length co9, .slice Ao10 t200.length co10] 29 (0, 0)) (by (with_reducible repeat (first | refine blk_drewN ?_ _ | refine blk_drew ?_ | refine blk_alloc ?_ _)); exact BK204.out) hb); have n3_ := Aside0.mk (below_step (by repeat (first | (with_reducible first | exact HB.out | apply below_alloc | apply pw_below_drewN | apply below_drew1 | refine below_set ?_ GE204.out) | exact HB.out)) hb); clear HO_205001; clear HO_205002; clear BK204; clear HB; have HO_205001 := n0_; have HO_205002 := n1_; have BK204 := n2_; have HB := n3_; clear n0_ n1_ n2_ n3_; (try clear hb); (try clear hb2); (try clear hk); (try clear hi)))
                go_ret
                exact ⟨by first | rfl | (simp [errW_none, errW_some] <;> rfl) | (simp [*, errW_none, errW_some] <;> rfl), by repeat (first | (with_reducible first | exact HB.out | apply below_alloc | apply pw_below_drewN | apply below_drew1 | refine below_set ?_ GE204.out) | exact HB.out)⟩
              · rw [if_neg c79] at H
                have c79b0 : (x6_1 == (t197.length : Int)) = false := beq_eq_false_iff_ne.mpr c79
                have c79b1 : (x6_1 != (t197.length : Int)) = true := bne_iff_ne.mpr c79
                obtain rfl := Option.some.inj H
                have hcz83_0 : wr.cell? ⟨gb204, 0, none⟩ = some (.string t196) := (blk_cell BK204.out 0).trans rfl
                have hcz83_1 : wr.cell? ⟨gb204, 1, none⟩ = some (.slice Ao9 t197.length co9) := (blk_cell BK204.out 1).trans rfl
                have hcz83_2 : wr.cell? ⟨gb204, 2, none⟩ = some (.slice Ao10 t200.length co10) := (blk_cell BK204.out 2).trans rfl
                have hfz83_0 := blk_frozen BK204.out 0
                have hfz83_1 := blk_frozen BK204.out 1
                have hfz83_2 := blk_frozen BK204.out 2
                go_wp2
                go_ret
                exact ⟨by first | rfl | (simp [errW_none, errW_some] <;> rfl) | (simp [*, errW_none, errW_some] <;> rfl), by repeat (first | (with_reducible first | exact HB.out | apply below_alloc | apply pw_below_drewN | apply below_drew1 | refine below_set ?_ GE204.out) | exact HB.out)⟩
            · rw [if_neg c78] at H
              have c78b0 : (x5_1 == (t196.size : Int)) = false := beq_eq_false_iff_ne.mpr c78
              have c78b1 : (x5_1 != (t196.size : Int)) = true := bne_iff_ne.mpr c78
              obtain rfl := Option.some.inj H
              have hcz84_0 : wr.cell? ⟨gb204, 0, none⟩ = some (.string t196) := (blk_cell BK204.out 0).trans rfl
              have hcz84_1 : wr.cell? ⟨gb204, 1, none⟩ = some (.slice Ao9 t197.length co9) := (blk_cell BK204.out 1).trans rfl
              have hcz84_2 : wr.cell? ⟨gb204, 2, none⟩ = some (.slice Ao10 t200.length co10) := (blk_cell BK204.out 2).trans rfl
              have hfz84_0 := blk_frozen BK204.out 0
              have hfz84_1 := blk_frozen BK204.out 1
              have hfz84_2 := blk_frozen BK204.out 2
              go_wp2
              go_ret
              exact ⟨by first | rfl | (simp [errW_none, errW_some] <;> rfl) | (simp [*, errW_none, errW_some] <;> rfl), by repeat (first | (with_reducible first | exact HB.out | apply below_alloc | apply pw_below_drewN | apply below_drew1 | refine below_set ?_ GE204.out) | exact HB.out)⟩
    · rw [if_neg c5] at H
      have c5b0 : (t203 == 0) = false := beq_eq_false_iff_ne.mpr c5
      have c5b1 : (t203 != 0) = true := bne_iff_ne.mpr c5
      replace H := Option.bind_eq_some_iff.mp H
      obtain ⟨t205, A850, H⟩ := H
      replace H : (if t205 = true then ((cotterlaw07_live.f).bind fun t206 => (some t206)) else (some false)) = some r := H
      have A85 := Aside0.mk A850
      clear A850
      by_cases c86 : t205 = true
      · subst c86
        have H1 : ((cotterlaw07_live.f).bind fun t206 => (some t206)) = some r := by rw [if_pos rfl] at H; exact H
        clear H
        have H := H1
        clear H1
        replace H := Option.bind_eq_some_iff.mp H
        obtain ⟨t206, A870, H⟩ := H
        replace H : (some t206) = some r := H
        have A87 := Aside0.mk A870
        clear A870
        obtain rfl := Option.some.inj H
        go_enter Try.func5, Try.ntmps5
        go_wp2_with (first | ((with_reducible refine gate_callee (f := 9) rfl ?_); refine goesL_ (some 14) rfl rfl Try.func9 (by kernel_rfl) rfl #[.slice A0 l0.length c0] rfl (by (try simp only [List.map_toArray, List.map_cons, List.map_nil]); first | done | rfl | (simp only [List.length_drop, List.length_take]; rfl)) ?_; (with_reducible refine (cotterlaw07_small.calls k _ _ l0 true _ ?side1 ?side2 A2.out).mono ?_); (case side1 => repeat (first | exact HR0.out | (with_reducible refine Kd.C_alloc ?_ _) | (with_reducible refine Kd.C_drewN ?_ _) | (with_reducible refine Kd.C_drew ?_))); (case side2 => exact HC0.out); rintro e w' ⟨rfl, ⟨nd, rfl⟩⟩; refine ⟨_, rfl, ?_⟩) | ((with_reducible refine gate_callee (f := 12) rfl ?_); refine goesL_ (some 19) rfl rfl Try.func12 (by kernel_rfl) rfl #[.slice A0 l0.length c0] rfl (by (try simp only [List.map_toArray, List.map_cons, List.map_nil]); first | done | rfl | (simp only [List.length_drop, List.length_take]; rfl)) ?_; (with_reducible refine (link_Link.calls _ _ l0 t196 t197 t200 t203 _ ?side1 ?side2 A4.out).mono ?_); (case side1 => repeat (first | exact HR0.out | (with_reducible refine Kd.C_alloc ?_ _) | (with_reducible refine Kd.C_drewN ?_ _) | (with_reducible refine Kd.C_drew ?_))); (case side2 => exact HC0.out); rintro e w88 ⟨v198, v201, rfl, ho0, ho1, hb⟩; refine ⟨_, rfl, ?_⟩; have n0_ := Aside0.mk (Kd.R_lower ho0 (below_size (by repeat (first | (with_reducible first | exact HB.out | apply below_alloc | apply pw_below_drewN | apply below_drew1) | exact HB.out)))); have n1_ := Aside0.mk (Kd.R_lower ho1 (below_size (by repeat (first | (with_reducible first | exact HB.out | apply below_alloc | apply pw_below_drewN | apply below_drew1) | exact HB.out)))); have n2_ := Aside0.mk (below_step (by repeat (first | (with_reducible first | exact HB.out | apply below_alloc | apply pw_below_drewN | apply below_drew1) | exact HB.out)) hb); clear HB; have HO199 := n0_; have HO202 := n1_; have HB := n2_; clear n0_ n1_ n2_; (try clear hb); (try clear hb2); (try clear hk); (try clear hi); (try clear ho0); (try clear ho1)) | ((with_reducible refine gate_dst (N := 3) rfl ?_); (try (refine gate_guard (by rfl) ?_; dsimp only)); refine box_event ?hg (N := 3) ?hd (cs := #[.string (⟨#[]⟩ : ByteArray), .slice none 0 0, .slice none 0 0]) (t := 29) ?hr ?_; (case hd => rfl); (case hg => rfl); (case hr => first | (go_simp; done) | (go_simp; rfl)); intro gb204 hg w89 hbox hb; have n0_ := Aside0.mk (Kd.R_below (by (with_reducible repeat (first | apply Kd.R_alloc | apply Kd.R_drewN | apply Kd.R_drew)); exact HO199.out) hb); have n1_ := Aside0.mk (Kd.R_below (by (with_reducible repeat (first | apply Kd.R_alloc | apply Kd.R_drewN | apply Kd.R_drew)); exact HO202.out) hb); have n2_ := Aside0.mk (below_step (by repeat (first | (with_reducible first | exact HB.out | apply below_alloc | apply pw_below_drewN | apply below_drew1) | exact HB.out)) hb); have n3_ := Aside0.mk (hbox); have n4_ := Aside0.mk ((by rw [hg]; exact (below_size (by repeat (first | (with_reducible first | exact HB.out | apply below_alloc | apply pw_below_drewN | apply below_drew1) | exact HB.out))) : w.heap.size ≤ gb204)); have n5_ := Aside0.mk ((by rw [hg]; exact (below_size (by repeat (first | (with_reducible first | exact HB.out | apply below_alloc | apply pw_below_drewN | apply below_drew1) | exact HB.out))) : w.heap.size ≤ gb204)); clear HO199; clear HO202; clear HB; have HO199 := n0_; have HO202 := n1_; have HB := n2_; have BK204 := n3_; have GW204 := n4_; have GE204 := n5_; clear n0_ n1_ n2_ n3_ n4_ n5_; clear hb hbox hg; have hcz90_0 : w89.cell? ⟨gb204, 0, none⟩ = some (.string (⟨#[]⟩ : ByteArray)) := (blk_cell BK204.out 0).trans rfl; have hcz90_1 : w89.cell? ⟨gb204, 1, none⟩ = some (.slice none 0 0) := (blk_cell BK204.out 1).trans rfl; have hcz90_2 : w89.cell? ⟨gb204, 2, none⟩ = some (.slice none 0 0) := (blk_cell BK204.out 2).trans rfl; have hfz90_0 := blk_frozen BK204.out 0; have hfz90_1 := blk_frozen BK204.out 1; have hfz90_2 := blk_frozen BK204.out 2; obtain ⟨Ao91, co91, eo91⟩ := Kd.R_slice HO199.out; subst eo91; obtain ⟨Ao92, co92, eo92⟩ := Kd.R_slice HO202.out; subst eo92) | ((with_reducible refine gate_callee (f := 14) rfl ?_); refine goesL_ (some 26) rfl rfl Try.func14 (by kernel_rfl) rfl #[.agg #[.string t196, .slice Ao91 t197.length co91, .slice Ao92 t200.length co92], .agg #[.string (⟨#[]⟩ : ByteArray), .slice none 0 0, .slice none 0 0]] rfl (by (try simp only [List.map_toArray, List.map_cons, List.map_nil]); first | done | rfl | (simp only [List.length_drop, List.length_take]; rfl)) ?_; (refine (cotterref07_Same.calls k t196 _ _ t197 _ _ t200 (⟨#[]⟩ : ByteArray) _ _ ([] : List Int) _ _ ([] : List (S36)) true _ ?side1 ?side2 ?side3 ?side4 ?side5 ?side6 ?side7 ?side8 A85.out).mono ?_); (case side1 => refine (Kd.R_reads' (e := 2) (base := w.heap.size) (ok := fun k_ => True) (n := t197.length) (c := co91) ?_).2.2; exact (by (with_reducible repeat (first | apply Kd.R_alloc | apply Kd.R_drewN | apply Kd.R_drew)); exact (Kd.R_mono (Kd.R_far (p := ⟨gb204, 2, none⟩) (Kd.R_far (p := ⟨gb204, 1, none⟩) (Kd.R_far (p := ⟨gb204, 0, none⟩) (Kd.R_types HO199.out BK204.out (by decide)) (fun _ hk => hk.2) (.string t196)) (fun _ hk => hk.2) (.slice Ao91 t197.length co91)) (fun _ hk => hk.2) (.slice Ao92 t200.length co92)) (fun _ h_ => h_.1)))); (case side2 => exact (Kd.R_reads' HO199.out).2.1); (case side3 => refine (Kd.R_reads' (e := 36) (base := w.heap.size) (ok := fun k_ => True) (n := t200.length) (c := co92) ?_).2.2; exact (by (with_reducible repeat (first | apply Kd.R_alloc | apply Kd.R_drewN | apply Kd.R_drew)); exact (Kd.R_mono (Kd.R_far (p := ⟨gb204, 2, none⟩) (Kd.R_far (p := ⟨gb204, 1, none⟩) (Kd.R_far (p := ⟨gb204, 0, none⟩) (Kd.R_types HO202.out BK204.out (by decide)) (fun _ hk => hk.2) (.string t196)) (fun _ hk => hk.2) (.slice Ao91 t197.length co91)) (fun _ hk => hk.2) (.slice Ao92 t200.length co92)) (fun _ h_ => h_.1)))); (case side4 => exact (Kd.R_reads' HO202.out).2.1); (case side5 => exact Kd.C_nil _ _); (case side6 => exact Nat.le_refl _); (case side7 => exact Kd.C_nil _ _); (case side8 => exact Nat.le_refl _); rintro e w93 ⟨rfl, hb⟩; refine ⟨_, rfl, ?_⟩; have n0_ := Aside0.mk (Kd.R_below (by (with_reducible repeat (first | apply Kd.R_alloc | apply Kd.R_drewN | apply Kd.R_drew)); exact (Kd.R_mono (Kd.R_far (p := ⟨gb204, 2, none⟩) (Kd.R_far (p := ⟨gb204, 1, none⟩) (Kd.R_far (p := ⟨gb204, 0, none⟩) (Kd.R_types HO199.out BK204.out (by decide)) (fun _ hk => hk.2) (.string t196)) (fun _ hk => hk.2) (.slice Ao91 t197.length co91)) (fun _ hk => hk.2) (.slice Ao92 t200.length co92)) (fun _ h_ => h_.1))) hb); have n1_ := Aside0.mk (Kd.R_below (by (with_reducible repeat (first | apply Kd.R_alloc | apply Kd.R_drewN | apply Kd.R_drew)); exact (Kd.R_mono (Kd.R_far (p := ⟨gb204, 2, none⟩) (Kd.R_far (p := ⟨gb204, 1, none⟩) (Kd.R_far (p := ⟨gb204, 0, none⟩) (Kd.R_types HO202.out BK204.out (by decide)) (fun _ hk => hk.2) (.string t196)) (fun _ hk => hk.2) (.slice Ao91 t197.length co91)) (fun _ hk => hk.2) (.slice Ao92 t200.length co92)) (fun _ h_ => h_.1))) hb); have n2_ := Aside0.mk (blk_below (g := gb204) (o := .cells #[.string t196, .slice Ao91 t197.length co91, .slice Ao92 t200.length co92] 29 (0, 0)) (by (with_reducible repeat (first | refine blk_drewN ?_ _ | refine blk_drew ?_ | refine blk_alloc ?_ _)); refine blk_put (cs := #[.string t196, .slice Ao91 t197.length co91, .slice none 0 0]) ?_ 2 _ rfl; (with_reducible repeat (first | refine blk_drewN ?_ _ | refine blk_drew ?_ | refine blk_alloc ?_ _)); refine blk_put (cs := #[.string t196, .slice none 0 0, .slice none 0 0]) ?_ 1 _ rfl; (with_reducible repeat (first | refine blk_drewN ?_ _ | refine blk_drew ?_ | refine blk_alloc ?_ _)); refine blk_put (cs := #[.string (⟨#[]⟩ : ByteArray), .slice none 0 0, .slice none 0 0]) ?_ 0 _ rfl; (with_reducible repeat (first | refine blk_drewN ?_ _ | refine blk_drew ?_ | refine blk_alloc ?_ _)); exact BK204.out) hb); have n3_ := Aside0.mk (below_step (by repeat (first | (with_reducible first | exact HB.out | apply below_alloc | apply pw_below_drewN | apply below_drew1 | refine below_set ?_ GE204.out) | exact HB.out)) hb); clear HO199; clear HO202; clear BK204; clear HB; have HO199 := n0_; have HO202 := n1_; have BK204 := n2_; have HB := n3_; clear n0_ n1_ n2_ n3_; (try clear hb); (try clear hb2); (try clear hk); (try clear hi)) | (go_at_call 10; (with_reducible refine (cotterlaw07_live.calls  t206 _ A87.out).mono ?_); rintro e w94 ⟨rfl, hb⟩; have n0_ := Aside0.mk (Kd.R_below (by (with_reducible repeat (first | apply Kd.R_alloc | apply Kd.R_drewN | apply Kd.R_drew)); exact HO199.out) hb); have n1_ := Aside0.mk (Kd.R_below (by (with_reducible repeat (first | apply Kd.R_alloc | apply Kd.R_drewN | apply Kd.R_drew)); exact HO202.out) hb); have n2_ := Aside0.mk (blk_below (g := gb204) (o := .cells #[.string t196, .slice Ao91 t197.length co91, .slice Ao92 t200.length co92] 29 (0, 0)) (by (with_reducible repeat (first | refine blk_drewN ?_ _ | refine blk_drew ?_ | refine blk_alloc ?_ _)); exact BK204.out) hb); have n3_ := Aside0.mk (below_step (by repeat (first | (with_reducible first | exact HB.out | apply below_alloc | apply pw_below_drewN | apply below_drew1 | refine below_set ?_ GE204.out) | exact HB.out)) hb); clear HO199; clear HO202; clear BK204; clear HB; have HO199 := n0_; have HO202 := n1_; have BK204 := n2_; have HB := n3_; clear n0_ n1_ n2_ n3_; (try clear hb); (try clear hb2); (try clear hk); (try clear hi)))
        go_ret
        exact ⟨by first | rfl | (simp [errW_none, errW_some] <;> rfl) | (simp [*, errW_none, errW_some] <;> rfl), by repeat (first | (with_reducible first | exact HB.out | apply below_alloc | apply pw_below_drewN | apply below_drew1 | refine below_set ?_ GE204.out) | exact HB.out)⟩
      · replace c86 := Bool.eq_false_iff.mpr c86
        subst c86
        have H1 : (some false) = some r := by rw [if_neg (show ¬ (false = true) by decide)] at H; exact H
        clear H
        have H := H1
        clear H1
        obtain rfl := Option.some.inj H
        go_enter Try.func5, Try.ntmps5
        go_wp2_with (first | ((with_reducible refine gate_callee (f := 9) rfl ?_); refine goesL_ (some 14) rfl rfl Try.func9 (by kernel_rfl) rfl #[.slice A0 l0.length c0] rfl (by (try simp only [List.map_toArray, List.map_cons, List.map_nil]); first | done | rfl | (simp only [List.length_drop, List.length_take]; rfl)) ?_; (with_reducible refine (cotterlaw07_small.calls k _ _ l0 true _ ?side1 ?side2 A2.out).mono ?_); (case side1 => repeat (first | exact HR0.out | (with_reducible refine Kd.C_alloc ?_ _) | (with_reducible refine Kd.C_drewN ?_ _) | (with_reducible refine Kd.C_drew ?_))); (case side2 => exact HC0.out); rintro e w' ⟨rfl, ⟨nd, rfl⟩⟩; refine ⟨_, rfl, ?_⟩) | ((with_reducible refine gate_callee (f := 12) rfl ?_); refine goesL_ (some 19) rfl rfl Try.func12 (by kernel_rfl) rfl #[.slice A0 l0.length c0] rfl (by (try simp only [List.map_toArray, List.map_cons, List.map_nil]); first | done | rfl | (simp only [List.length_drop, List.length_take]; rfl)) ?_; (with_reducible refine (link_Link.calls _ _ l0 t196 t197 t200 t203 _ ?side1 ?side2 A4.out).mono ?_); (case side1 => repeat (first | exact HR0.out | (with_reducible refine Kd.C_alloc ?_ _) | (with_reducible refine Kd.C_drewN ?_ _) | (with_reducible refine Kd.C_drew ?_))); (case side2 => exact HC0.out); rintro e w95 ⟨v198, v201, rfl, ho0, ho1, hb⟩; refine ⟨_, rfl, ?_⟩; have n0_ := Aside0.mk (Kd.R_lower ho0 (below_size (by repeat (first | (with_reducible first | exact HB.out | apply below_alloc | apply pw_below_drewN | apply below_drew1) | exact HB.out)))); have n1_ := Aside0.mk (Kd.R_lower ho1 (below_size (by repeat (first | (with_reducible first | exact HB.out | apply below_alloc | apply pw_below_drewN | apply below_drew1) | exact HB.out)))); have n2_ := Aside0.mk (below_step (by repeat (first | (with_reducible first | exact HB.out | apply below_alloc | apply pw_below_drewN | apply below_drew1) | exact HB.out)) hb); clear HB; have HO199 := n0_; have HO202 := n1_; have HB := n2_; clear n0_ n1_ n2_; (try clear hb); (try clear hb2); (try clear hk); (try clear hi); (try clear ho0); (try clear ho1)) | ((with_reducible refine gate_dst (N := 3) rfl ?_); (try (refine gate_guard (by rfl) ?_; dsimp only)); refine box_event ?hg (N := 3) ?hd (cs := #[.string (⟨#[]⟩ : ByteArray), .slice none 0 0, .slice none 0 0]) (t := 29) ?hr ?_; (case hd => rfl); (case hg => rfl); (case hr => first | (go_simp; done) | (go_simp; rfl)); intro gb204 hg w96 hbox hb; have n0_ := Aside0.mk (Kd.R_below (by (with_reducible repeat (first | apply Kd.R_alloc | apply Kd.R_drewN | apply Kd.R_drew)); exact HO199.out) hb); have n1_ := Aside0.mk (Kd.R_below (by (with_reducible repeat (first | apply Kd.R_alloc | apply Kd.R_drewN | apply Kd.R_drew)); exact HO202.out) hb); have n2_ := Aside0.mk (below_step (by repeat (first | (with_reducible first | exact HB.out | apply below_alloc | apply pw_below_drewN | apply below_drew1) | exact HB.out)) hb); have n3_ := Aside0.mk (hbox); have n4_ := Aside0.mk ((by rw [hg]; exact (below_size (by repeat (first | (with_reducible first | exact HB.out | apply below_alloc | apply pw_below_drewN | apply below_drew1) | exact HB.out))) : w.heap.size ≤ gb204)); have n5_ := Aside0.mk ((by rw [hg]; exact (below_size (by repeat (first | (with_reducible first | exact HB.out | apply below_alloc | apply pw_below_drewN | apply below_drew1) | exact HB.out))) : w.heap.size ≤ gb204)); clear HO199; clear HO202; clear HB; have HO199 := n0_; have HO202 := n1_; have HB := n2_; have BK204 := n3_; have GW204 := n4_; have GE204 := n5_; clear n0_ n1_ n2_ n3_ n4_ n5_; clear hb hbox hg; have hcz97_0 : w96.cell? ⟨gb204, 0, none⟩ = some (.string (⟨#[]⟩ : ByteArray)) := (blk_cell BK204.out 0).trans rfl; have hcz97_1 : w96.cell? ⟨gb204, 1, none⟩ = some (.slice none 0 0) := (blk_cell BK204.out 1).trans rfl; have hcz97_2 : w96.cell? ⟨gb204, 2, none⟩ = some (.slice none 0 0) := (blk_cell BK204.out 2).trans rfl; have hfz97_0 := blk_frozen BK204.out 0; have hfz97_1 := blk_frozen BK204.out 1; have hfz97_2 := blk_frozen BK204.out 2; obtain ⟨Ao98, co98, eo98⟩ := Kd.R_slice HO199.out; subst eo98; obtain ⟨Ao99, co99, eo99⟩ := Kd.R_slice HO202.out; subst eo99) | ((with_reducible refine gate_callee (f := 14) rfl ?_); refine goesL_ (some 26) rfl rfl Try.func14 (by kernel_rfl) rfl #[.agg #[.string t196, .slice Ao98 t197.length co98, .slice Ao99 t200.length co99], .agg #[.string (⟨#[]⟩ : ByteArray), .slice none 0 0, .slice none 0 0]] rfl (by (try simp only [List.map_toArray, List.map_cons, List.map_nil]); first | done | rfl | (simp only [List.length_drop, List.length_take]; rfl)) ?_; (refine (cotterref07_Same.calls k t196 _ _ t197 _ _ t200 (⟨#[]⟩ : ByteArray) _ _ ([] : List Int) _ _ ([] : List (S36)) false _ ?side1 ?side2 ?side3 ?side4 ?side5 ?side6 ?side7 ?side8 A85.out).mono ?_); (case side1 => refine (Kd.R_reads' (e := 2) (base := w.heap.size) (ok := fun k_ => True) (n := t197.length) (c := co98) ?_).2.2; exact (by (with_reducible repeat (first | apply Kd.R_alloc | apply Kd.R_drewN | apply Kd.R_drew)); exact (Kd.R_mono (Kd.R_far (p := ⟨gb204, 2, none⟩) (Kd.R_far (p := ⟨gb204, 1, none⟩) (Kd.R_far (p := ⟨gb204, 0, none⟩) (Kd.R_types HO199.out BK204.out (by decide)) (fun _ hk => hk.2) (.string t196)) (fun _ hk => hk.2) (.slice Ao98 t197.length co98)) (fun _ hk => hk.2) (.slice Ao99 t200.length co99)) (fun _ h_ => h_.1)))); (case side2 => exact (Kd.R_reads' HO199.out).2.1); (case side3 => refine (Kd.R_reads' (e := 36) (base := w.heap.size) (ok := fun k_ => True) (n := t200.length) (c := co99) ?_).2.2; exact (by (with_reducible repeat (first | apply Kd.R_alloc | apply Kd.R_drewN | apply Kd.R_drew)); exact (Kd.R_mono (Kd.R_far (p := ⟨gb204, 2, none⟩) (Kd.R_far (p := ⟨gb204, 1, none⟩) (Kd.R_far (p := ⟨gb204, 0, none⟩) (Kd.R_types HO202.out BK204.out (by decide)) (fun _ hk => hk.2) (.string t196)) (fun _ hk => hk.2) (.slice Ao98 t197.length co98)) (fun _ hk => hk.2) (.slice Ao99 t200.length co99)) (fun _ h_ => h_.1)))); (case side4 => exact (Kd.R_reads' HO202.out).2.1); (case side5 => exact Kd.C_nil _ _); (case side6 => exact Nat.le_refl _); (case side7 => exact Kd.C_nil _ _); (case side8 => exact Nat.le_refl _); rintro e w100 ⟨rfl, hb⟩; refine ⟨_, rfl, ?_⟩; have n0_ := Aside0.mk (Kd.R_below (by (with_reducible repeat (first | apply Kd.R_alloc | apply Kd.R_drewN | apply Kd.R_drew)); exact (Kd.R_mono (Kd.R_far (p := ⟨gb204, 2, none⟩) (Kd.R_far (p := ⟨gb204, 1, none⟩) (Kd.R_far (p := ⟨gb204, 0, none⟩) (Kd.R_types HO199.out BK204.out (by decide)) (fun _ hk => hk.2) (.string t196)) (fun _ hk => hk.2) (.slice Ao98 t197.length co98)) (fun _ hk => hk.2) (.slice Ao99 t200.length co99)) (fun _ h_ => h_.1))) hb); have n1_ := Aside0.mk (Kd.R_below (by (with_reducible repeat (first | apply Kd.R_alloc | apply Kd.R_drewN | apply Kd.R_drew)); exact (Kd.R_mono (Kd.R_far (p := ⟨gb204, 2, none⟩) (Kd.R_far (p := ⟨gb204, 1, none⟩) (Kd.R_far (p := ⟨gb204, 0, none⟩) (Kd.R_types HO202.out BK204.out (by decide)) (fun _ hk => hk.2) (.string t196)) (fun _ hk => hk.2) (.slice Ao98 t197.length co98)) (fun _ hk => hk.2) (.slice Ao99 t200.length co99)) (fun _ h_ => h_.1))) hb); have n2_ := Aside0.mk (blk_below (g := gb204) (o := .cells #[.string t196, .slice Ao98 t197.length co98, .slice Ao99 t200.length co99] 29 (0, 0)) (by (with_reducible repeat (first | refine blk_drewN ?_ _ | refine blk_drew ?_ | refine blk_alloc ?_ _)); refine blk_put (cs := #[.string t196, .slice Ao98 t197.length co98, .slice none 0 0]) ?_ 2 _ rfl; (with_reducible repeat (first | refine blk_drewN ?_ _ | refine blk_drew ?_ | refine blk_alloc ?_ _)); refine blk_put (cs := #[.string t196, .slice none 0 0, .slice none 0 0]) ?_ 1 _ rfl; (with_reducible repeat (first | refine blk_drewN ?_ _ | refine blk_drew ?_ | refine blk_alloc ?_ _)); refine blk_put (cs := #[.string (⟨#[]⟩ : ByteArray), .slice none 0 0, .slice none 0 0]) ?_ 0 _ rfl; (with_reducible repeat (first | refine blk_drewN ?_ _ | refine blk_drew ?_ | refine blk_alloc ?_ _)); exact BK204.out) hb); have n3_ := Aside0.mk (below_step (by repeat (first | (with_reducible first | exact HB.out | apply below_alloc | apply pw_below_drewN | apply below_drew1 | refine below_set ?_ GE204.out) | exact HB.out)) hb); clear HO199; clear HO202; clear BK204; clear HB; have HO199 := n0_; have HO202 := n1_; have BK204 := n2_; have HB := n3_; clear n0_ n1_ n2_ n3_; (try clear hb); (try clear hb2); (try clear hk); (try clear hi)))
        go_ret
        exact ⟨by first | rfl | (simp [errW_none, errW_some] <;> rfl) | (simp [*, errW_none, errW_some] <;> rfl), by repeat (first | (with_reducible first | exact HB.out | apply below_alloc | apply pw_below_drewN | apply below_drew1 | refine below_set ?_ GE204.out) | exact HB.out)⟩
  · replace c3 := Bool.eq_false_iff.mpr c3
    subst c3
    have H1 : ((cotterlaw07_live.f).bind fun t195 => (some t195)) = some r := by rw [if_neg (show ¬ (false = true) by decide)] at H; exact H
    clear H
    have H := H1
    clear H1
    replace H := Option.bind_eq_some_iff.mp H
    obtain ⟨t195, A1010, H⟩ := H
    replace H : (some t195) = some r := H
    have A101 := Aside0.mk A1010
    clear A1010
    obtain rfl := Option.some.inj H
    go_enter Try.func5, Try.ntmps5
    go_wp2_with (first | ((with_reducible refine gate_callee (f := 9) rfl ?_); refine goesL_ (some 14) rfl rfl Try.func9 (by kernel_rfl) rfl #[.slice A0 l0.length c0] rfl (by (try simp only [List.map_toArray, List.map_cons, List.map_nil]); first | done | rfl | (simp only [List.length_drop, List.length_take]; rfl)) ?_; (with_reducible refine (cotterlaw07_small.calls k _ _ l0 false _ ?side1 ?side2 A2.out).mono ?_); (case side1 => repeat (first | exact HR0.out | (with_reducible refine Kd.C_alloc ?_ _) | (with_reducible refine Kd.C_drewN ?_ _) | (with_reducible refine Kd.C_drew ?_))); (case side2 => exact HC0.out); rintro e w' ⟨rfl, ⟨nd, rfl⟩⟩; refine ⟨_, rfl, ?_⟩) | ((with_reducible refine gate_callee (f := 10) rfl ?_); refine goesL_ (some 16) rfl rfl Try.func10 (by kernel_rfl) rfl #[] rfl (by (try simp only [List.map_toArray, List.map_cons, List.map_nil]); first | done | rfl | (simp only [List.length_drop, List.length_take]; rfl)) ?_; (with_reducible refine (cotterlaw07_live.calls  t195 _ A101.out).mono ?_); rintro e w102 ⟨rfl, hb⟩; refine ⟨_, rfl, ?_⟩; have n0_ := Aside0.mk (below_step (by repeat (first | (with_reducible first | exact HB.out | apply below_alloc | apply pw_below_drewN | apply below_drew1) | exact HB.out)) hb); clear HB; have HB := n0_; clear n0_; (try clear hb); (try clear hb2); (try clear hk); (try clear hi)))
    go_ret
    exact ⟨by first | rfl | (simp [errW_none, errW_some] <;> rfl) | (simp [*, errW_none, errW_some] <;> rfl), by repeat (first | (with_reducible first | exact HB.out | apply below_alloc | apply pw_below_drewN | apply below_drew1) | exact HB.out)⟩

end Go.Proofs.Yteaealmnmmcbpaa.M

