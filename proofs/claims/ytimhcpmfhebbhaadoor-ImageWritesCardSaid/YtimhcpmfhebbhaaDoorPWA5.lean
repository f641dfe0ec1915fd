/-
  Texts of the proofs of ImageWrites, cut to what the proofs reach and packed by a program of this session (wip/packs.py). Each part begins with what it says; conditions: those told there.
-/
import Derived.Test.YtimhcpmfhebbhaaDoorPWA4
namespace Go.Proofs.YtimhcpmfhebbhaaDoor.M
open Go.RowKit Go.Proofs.YtimhcpmfhebbhaaDoorW.PrintWords Go.Proofs.YtimhcpmfhebbhaaDoorW.PrintLast
set_option linter.unusedVariables false
set_option linter.unusedSimpArgs false
mutual
def cotterref03_Decode.j0 : Nat → ByteArray → Int → Bool → Option (Int × Int × Int × Int × Int × Int)
 | 0, _, _, _ => none
 | k + 1, x0, x1, x21 => if x21 = true then (some (0, 0, 0, 0, 0, 1)) else (if x1 = (x0.size : Int) then (some (0, 0, 0, 0, 0, 9)) else (if 0 ≤ x1 then (if x1 < (x0.size : Int) then ((cotterref03_Size.f k (wrap64 (bt x0 x1))).bind fun t154 => (if t154 = 0 then (cotterref03_Decode.j1 k x0 x1 t154 true (wrap64 (bt x0 x1)) 0 0 0) else (cotterref03_Decode.j1 k x0 x1 t154 (decide ((wrap64 (x1 + t154)) > (x0.size : Int))) (wrap64 (bt x0 x1)) 0 0 0))) else (none)) else (none)))
def cotterref03_Decode.j1 : Nat → ByteArray → Int → Int → Bool → Int → Int → Int → Int → Option (Int × Int × Int × Int × Int × Int)
 | 0, _, _, _, _, _, _, _, _ => none
 | k + 1, x0, x1, x8, x45, x154000, x154001, x154002, x154003 => if x45 = true then (some (0, 0, 0, 0, 0, 9)) else ((cotterref03_form.f k x154000).bind fun t155 => ((cotterref03_parts.f k t155).bind fun bt156 => (if bt156.2.1 = true then (if 0 ≤ (wrap64 (x1 + 1)) then (if (wrap64 (x1 + 1)) < (x0.size : Int) then (cotterref03_Decode.j2 k x0 x1 x8 bt156.2.2 x154000 (wrap64 (Int.tdiv (wrap64 (bt x0 (wrap64 (x1 + 1)))) 16)) (Int.tmod (wrap64 (bt x0 (wrap64 (x1 + 1)))) 16) x154003) else (none)) else (none)) else (if bt156.1 = true then (if 0 ≤ (wrap64 (x1 + 1)) then (if (wrap64 (x1 + 1)) < (x0.size : Int) then (cotterref03_Decode.j2 k x0 x1 x8 bt156.2.2 x154000 (wrap64 (bt x0 (wrap64 (x1 + 1)))) x154002 x154003) else (none)) else (none)) else (cotterref03_Decode.j2 k x0 x1 x8 bt156.2.2 x154000 x154001 x154002 x154003)))))
def cotterref03_Decode.j2 : Nat → ByteArray → Int → Int → Int → Int → Int → Int → Int → Option (Int × Int × Int × Int × Int × Int)
 | 0, _, _, _, _, _, _, _, _ => none
 | k + 1, x0, x1, x8, x11, x154000, x154001, x154002, x154003 => if x11 > 0 then (if 0 ≤ (wrap64 ((wrap64 (x1 + x8)) - x11)) then (if (wrap64 ((wrap64 (x1 + x8)) - x11)) ≤ (wrap64 (x1 + x8)) then (if (wrap64 (x1 + x8)) ≤ (x0.size : Int) then ((cotterref01_Number.f k (x0.extract ((wrap64 ((wrap64 (x1 + x8)) - x11)) : Int).toNat ((wrap64 (x1 + x8)) : Int).toNat)).bind fun bt159 => ((cotterref03_Encode.f k x154000 x154001 x154002 bt159.1).bind fun bt161 => (if bt161.2 = 0 then (some (x154000, x154001, x154002, bt159.1, wrap64 (x1 + x8), 0)) else (some (0, 0, 0, 0, 0, 9))))) else (none)) else (none)) else (none)) else ((cotterref03_Encode.f k x154000 x154001 x154002 x154003).bind fun bt163 => (if bt163.2 = 0 then (some (x154000, x154001, x154002, x154003, wrap64 (x1 + x8), 0)) else (some (0, 0, 0, 0, 0, 9))))
end
def cotterref03_Decode.f (k : Nat) (a0 : ByteArray) (a1 : Int) : Option (Int × Int × Int × Int × Int × Int) := if a1 < 0 then (cotterref03_Decode.j0 k a0 a1 true) else (cotterref03_Decode.j0 k a0 a1 (decide (a1 > (a0.size : Int))))
set_option maxHeartbeats 8000000 in
set_option maxRecDepth 100000 in
theorem cotterref03_Decode.calls (k : Nat) (a0 : ByteArray) (a1 : Int) (r1 : Int) (r2 : Int) (r3 : Int) (r4 : Int) (r5 : Int) (r6 : Int) (w : World) (h : cotterref03_Decode.f k a0 a1 = some (r1, r2, r3, r4, r5, r6)) :
 Calls Tryd.prog 65 #[.string a0, .int .i64 a1] w fun e w' => e = .returned (.tuple #[.agg #[.int .i64 r1, .int .i64 r2, .int .i64 r3, .int .i64 r4], .int .i64 r5, .int .i64 r6]) ∧ Below w.heap.size w w' := by
 have hu79 := Tryd.underlying79
 have HB := z4 (Below.refl w.heap.size w)
 have H : (if a1 < 0 then (cotterref03_Decode.j0 k a0 a1 true) else (cotterref03_Decode.j0 k a0 a1 (decide (a1 > (a0.size : Int))))) = some (r1, r2, r3, r4, r5, r6) := h
 clear h
 have HC3 := z4 H
 clear H
 go_enter Tryd.func65, Tryd.ntmps65
 go_upto_region 1 with (first | ((with_reducible refine gate_dst (N := 4) rfl ?_); (try (refine gate_guard (by rfl) ?_; dsimp only)); refine box_event ?hg (N := 4) ?hd (cs := #[.int .i64 0, .int .i64 0, .int .i64 0, .int .i64 0]) (t := 79) ?hr ?_; (case hd => rfl); (case hg => rfl); (case hr => first | (go_simp; done) | (go_simp; rfl)); intro gb152 hg w4 hbox hb; have n0_ := z4 (zK (by repeat (first | exact HB.out | apply zA | apply zB | apply zD)) hb); have n1_ := z4 (hbox); have n2_ := z4 ((by rw [hg]; exact (zL (by repeat (first | exact HB.out | apply zA | apply zB | apply zD))) : w.heap.size ≤ gb152)); have n3_ := z4 ((by rw [hg]; exact (zL (by repeat (first | exact HB.out | apply zA | apply zB | apply zD))) : w.heap.size ≤ gb152)); clear HB; have HB := n0_; have BK152 := n1_; have GW152 := n2_; have GE152 := n3_; clear n0_ n1_ n2_ n3_; clear hb hbox hg))
 (try simp only [Act.put, z1, z2, z3])
 go_cut [21] (fun v21 wc => ∃ (kq : Nat) (x21_2 : Bool), v21 = .bool x21_2 ∧ Aside0 (cotterref03_Decode.j0 kq a0 a1 x21_2 = some (r1, r2, r3, r4, r5, r6)) ∧ Aside0 (kq ≤ k) ∧ Aside0 (wc.heap[gb152]? = some (.cells #[.int .i64 0, .int .i64 0, .int .i64 0, .int .i64 0] 79 (0, 0))) ∧ Aside0 (Below w.heap.size w wc))
 case first =>
  have H := HC3.out
  clear HC3
  by_cases c5 : a1 < 0
  ·rw [if_pos c5] at H
   have c5b0 : decide (a1 < 0) = true := decide_eq_true c5
   clear c5
   (first | rw [c5b0] | (simp only [i64_w, i32_w]; rw [c5b0]) | skip)
   have H' := z4 H
   clear H
   go_wp2
   go_meet
   case rel => exact ⟨_, (true), (by first | rfl | (simp; done) | (simp [*]; done)), H', ⟨by first | omega | exact Nat.le_refl _⟩, ⟨by (with_reducible repeat (first | refine zH ?_ _ | refine zI ?_ | refine zG ?_ _)); exact BK152.out⟩, ⟨by repeat (first | exact HB.out | apply zA | apply zB | apply zD | refine zJ ?_ GE152.out)⟩⟩
  ·rw [if_neg c5] at H
   have c5b0 : decide (a1 < 0) = false := decide_eq_false c5
   clear c5
   (first | rw [c5b0] | (simp only [i64_w, i32_w]; rw [c5b0]) | skip)
   have H' := z4 H
   clear H
   go_wp2
   go_meet
   case rel => exact ⟨_, (decide (a1 > (a0.size : Int))), (by first | rfl | (simp; done) | (simp [*]; done)), H', ⟨by first | omega | exact Nat.le_refl _⟩, ⟨by (with_reducible repeat (first | refine zH ?_ _ | refine zI ?_ | refine zG ?_ _)); exact BK152.out⟩, ⟨by repeat (first | exact HB.out | apply zA | apply zB | apply zD | refine zJ ?_ GE152.out)⟩⟩
 case rest =>
  clear HC3
  try clear p2
  try clear c5
  try clear c5b0
  obtain ⟨kq, x21_2, rfl, HA, HJ2, BK152, HB⟩ := hcut
  cases kq with
  | zero => exact absurd HA.out (by simp [cotterref03_Decode.j0])
  | succ kj2 =>
   have H := HA.out
   clear HA
   simp only [cotterref03_Decode.j0] at H
   by_cases c6 : x21_2 = true
   ·subst c6
    have H1 : (some (0, 0, 0, 0, 0, 1)) = some (r1, r2, r3, r4, r5, r6) := by rw [if_pos rfl] at H; exact H
    clear H
    have H := H1
    clear H1
    simp only [Option.some.injEq, Prod.mk.injEq] at H
    obtain ⟨rfl, rfl, rfl, rfl, rfl, rfl⟩ := H
    have hcz7_0 : wc.cell? ⟨gb152, 0, none⟩ = some (.int .i64 0) := (zC BK152.out 0).trans rfl
    have hcz7_1 : wc.cell? ⟨gb152, 1, none⟩ = some (.int .i64 0) := (zC BK152.out 1).trans rfl
    have hcz7_2 : wc.cell? ⟨gb152, 2, none⟩ = some (.int .i64 0) := (zC BK152.out 2).trans rfl
    have hcz7_3 : wc.cell? ⟨gb152, 3, none⟩ = some (.int .i64 0) := (zC BK152.out 3).trans rfl
    have hfz7_0 := zF BK152.out 0
    have hfz7_1 := zF BK152.out 1
    have hfz7_2 := zF BK152.out 2
    have hfz7_3 := zF BK152.out 3
    go_wp2
    refine bodyPost_ret (results_ctt rfl _ _ gb152 79 #[.int .i64 0, .int .i64 0, .int .i64 0, .int .i64 0] (0, 0) _ rfl (by (with_reducible repeat (first | refine zH ?_ _ | refine zI ?_ | refine zG ?_ _)); refine blk_put (cs := #[.int .i64 0, .int .i64 0, .int .i64 0, .int .i64 0]) ?_ 3 _ rfl; (with_reducible repeat (first | refine zH ?_ _ | refine zI ?_ | refine zG ?_ _)); refine blk_put (cs := #[.int .i64 0, .int .i64 0, .int .i64 0, .int .i64 0]) ?_ 2 _ rfl; (with_reducible repeat (first | refine zH ?_ _ | refine zI ?_ | refine zG ?_ _)); refine blk_put (cs := #[.int .i64 0, .int .i64 0, .int .i64 0, .int .i64 0]) ?_ 1 _ rfl; (with_reducible repeat (first | refine zH ?_ _ | refine zI ?_ | refine zG ?_ _)); refine blk_put (cs := #[.int .i64 0, .int .i64 0, .int .i64 0, .int .i64 0]) ?_ 0 _ rfl; (with_reducible repeat (first | refine zH ?_ _ | refine zI ?_ | refine zG ?_ _)); exact BK152.out) Tryd.underlying79 rfl (by kernel_rfl)) rfl ?_
    exact ⟨by first | rfl | (simp [errW_none, errW_some] <;> rfl) | (simp [*, errW_none, errW_some] <;> rfl), by repeat (first | exact HB.out | apply zA | apply zB | apply zD | refine zJ ?_ GE152.out)⟩
   ·replace c6 := Bool.eq_false_iff.mpr c6
    subst c6
    have H1 : (if a1 = (a0.size : Int) then (some (0, 0, 0, 0, 0, 9)) else (if 0 ≤ a1 then (if a1 < (a0.size : Int) then ((cotterref03_Size.f kj2 (wrap64 (bt a0 a1))).bind fun t154 => (if t154 = 0 then (cotterref03_Decode.j1 kj2 a0 a1 t154 true (wrap64 (bt a0 a1)) 0 0 0) else (cotterref03_Decode.j1 kj2 a0 a1 t154 (decide ((wrap64 (a1 + t154)) > (a0.size : Int))) (wrap64 (bt a0 a1)) 0 0 0))) else (none)) else (none))) = some (r1, r2, r3, r4, r5, r6) := by rw [if_neg (show ¬ (false = true) by decide)] at H; exact H
    clear H
    have H := H1
    clear H1
    by_cases c8 : a1 = (a0.size : Int)
    ·rw [if_pos c8] at H
     have c8b0 : (a1 == (a0.size : Int)) = true := z5 c8
     have c8b1 : (a1 != (a0.size : Int)) = false := z6 c8
     clear c8
     simp only [Option.some.injEq, Prod.mk.injEq] at H
     obtain ⟨rfl, rfl, rfl, rfl, rfl, rfl⟩ := H
     have hcz9_0 : wc.cell? ⟨gb152, 0, none⟩ = some (.int .i64 0) := (zC BK152.out 0).trans rfl
     have hcz9_1 : wc.cell? ⟨gb152, 1, none⟩ = some (.int .i64 0) := (zC BK152.out 1).trans rfl
     have hcz9_2 : wc.cell? ⟨gb152, 2, none⟩ = some (.int .i64 0) := (zC BK152.out 2).trans rfl
     have hcz9_3 : wc.cell? ⟨gb152, 3, none⟩ = some (.int .i64 0) := (zC BK152.out 3).trans rfl
     have hfz9_0 := zF BK152.out 0
     have hfz9_1 := zF BK152.out 1
     have hfz9_2 := zF BK152.out 2
     have hfz9_3 := zF BK152.out 3
     go_wp2
     refine bodyPost_ret (results_ctt rfl _ _ gb152 79 #[.int .i64 0, .int .i64 0, .int .i64 0, .int .i64 0] (0, 0) _ rfl (by (with_reducible repeat (first | refine zH ?_ _ | refine zI ?_ | refine zG ?_ _)); refine blk_put (cs := #[.int .i64 0, .int .i64 0, .int .i64 0, .int .i64 0]) ?_ 3 _ rfl; (with_reducible repeat (first | refine zH ?_ _ | refine zI ?_ | refine zG ?_ _)); refine blk_put (cs := #[.int .i64 0, .int .i64 0, .int .i64 0, .int .i64 0]) ?_ 2 _ rfl; (with_reducible repeat (first | refine zH ?_ _ | refine zI ?_ | refine zG ?_ _)); refine blk_put (cs := #[.int .i64 0, .int .i64 0, .int .i64 0, .int .i64 0]) ?_ 1 _ rfl; (with_reducible repeat (first | refine zH ?_ _ | refine zI ?_ | refine zG ?_ _)); refine blk_put (cs := #[.int .i64 0, .int .i64 0, .int .i64 0, .int .i64 0]) ?_ 0 _ rfl; (with_reducible repeat (first | refine zH ?_ _ | refine zI ?_ | refine zG ?_ _)); exact BK152.out) Tryd.underlying79 rfl (by kernel_rfl)) rfl ?_
     exact ⟨by first | rfl | (simp [errW_none, errW_some] <;> rfl) | (simp [*, errW_none, errW_some] <;> rfl), by repeat (first | exact HB.out | apply zA | apply zB | apply zD | refine zJ ?_ GE152.out)⟩
    ·rw [if_neg c8] at H
     have c8b0 : (a1 == (a0.size : Int)) = false := z7 c8
     have c8b1 : (a1 != (a0.size : Int)) = true := bne_iff_ne.mpr c8
     by_cases c10 : 0 ≤ a1
     ·rw [if_pos c10] at H
      have c10b0 : decide (0 ≤ a1) = true := decide_eq_true c10
      clear c10
      by_cases c11 : a1 < (a0.size : Int)
      ·rw [if_pos c11] at H
       have c11b0 : decide (a1 < (a0.size : Int)) = true := decide_eq_true c11
       clear c11
       replace H := z8 H
       obtain ⟨t154, A130, H⟩ := H
       replace H : (if t154 = 0 then (cotterref03_Decode.j1 kj2 a0 a1 t154 true (wrap64 (bt a0 a1)) 0 0 0) else (cotterref03_Decode.j1 kj2 a0 a1 t154 (decide ((wrap64 (a1 + t154)) > (a0.size : Int))) (wrap64 (bt a0 a1)) 0 0 0)) = some (r1, r2, r3, r4, r5, r6) := H
       have A13 := z4 A130
       clear A130
       have HC14 := z4 H
       clear H
       have p12 : 0 ≤ (a1 : Int) := of_decide_eq_true (by first | (with_reducible assumption) | assumption)
       have q12 : a1 < (a0.size : Int) := of_decide_eq_true (by first | (with_reducible assumption) | assumption)
       have hx12 := bt_at a0 a1
       replace p12 := eq_true p12
       replace q12 := eq_true q12
       go_upto_region 7 with (first | ((with_reducible refine gate_dst (N := 7) rfl ?_); (try (refine gate_guard (by rfl) ?_; dsimp only)); refine box_event ?hg (N := 7) ?hd (cs := #[.int .i64 0, .int .i64 0, .int .i64 0, .int .i64 0]) (t := 79) ?hr ?_; (case hd => rfl); (case hg => rfl); (case hr => first | (go_simp; done) | (go_simp; rfl)); intro gb153 hg w15 hbox hb; have n0_ := z4 (blk_below (g := gb152) (o := .cells #[.int .i64 0, .int .i64 0, .int .i64 0, .int .i64 0] 79 (0, 0)) (by (with_reducible repeat (first | refine zH ?_ _ | refine zI ?_ | refine zG ?_ _)); exact BK152.out) hb); have n1_ := z4 (zK (by repeat (first | exact HB.out | apply zA | apply zB | apply zD | refine zJ ?_ GE152.out)) hb); have n2_ := z4 (hbox); have n3_ := z4 ((by rw [hg]; exact (zL (by repeat (first | exact HB.out | apply zA | apply zB | apply zD | refine zJ ?_ GE152.out))) : w.heap.size ≤ gb153)); have n4_ := z4 ((by rw [hg]; exact (zL (by repeat (first | exact HB.out | apply zA | apply zB | apply zD | refine zJ ?_ GE152.out))) : w.heap.size ≤ gb153)); have n5_ := z4 ((by rw [hg]; exact Nat.ne_of_lt (blk_lt (g := gb152) (o := .cells #[.int .i64 0, .int .i64 0, .int .i64 0, .int .i64 0] 79 (0, 0)) (by (with_reducible repeat (first | refine zH ?_ _ | refine zI ?_ | refine zG ?_ _)); exact BK152.out)) : gb152 ≠ gb153)); have n6_ := z4 ((by rw [hg]; exact Nat.ne_of_gt (blk_lt (g := gb152) (o := .cells #[.int .i64 0, .int .i64 0, .int .i64 0, .int .i64 0] 79 (0, 0)) (by (with_reducible repeat (first | refine zH ?_ _ | refine zI ?_ | refine zG ?_ _)); exact BK152.out)) : gb153 ≠ gb152)); clear BK152; clear HB; have BK152 := n0_; have HB := n1_; have BK153 := n2_; have GW153 := n3_; have GE153 := n4_; have NB152_153 := n5_; have NB153_152 := n6_; clear n0_ n1_ n2_ n3_ n4_ n5_ n6_; clear hb hbox hg; have hnb16 := NB153_152.out; have hnc16 := NB152_153.out; have hcz17_0 : w15.cell? ⟨gb153, 0, none⟩ = some (.int .i64 0) := (zC BK153.out 0).trans rfl; have hcz17_1 : w15.cell? ⟨gb153, 1, none⟩ = some (.int .i64 0) := (zC BK153.out 1).trans rfl; have hcz17_2 : w15.cell? ⟨gb153, 2, none⟩ = some (.int .i64 0) := (zC BK153.out 2).trans rfl; have hcz17_3 : w15.cell? ⟨gb153, 3, none⟩ = some (.int .i64 0) := (zC BK153.out 3).trans rfl; have hfz17_0 := zF BK153.out 0; have hfz17_1 := zF BK153.out 1; have hfz17_2 := zF BK153.out 2; have hfz17_3 := zF BK153.out 3) | ((with_reducible refine gate_callee (f := 39) rfl ?_); refine goesL_ (some 35) rfl rfl Tryd.func39 (by kernel_rfl) rfl #[.int .i64 (wrap64 (bt a0 a1))] rfl (by (try simp only [z9, List.map_cons, List.map_nil]); first | done | rfl | (simp only [z9a, z9b]; rfl)) ?_; (with_reducible refine (cotterref03_Size.calls kj2 (wrap64 (bt a0 a1)) t154 _ A13.out).mono ?_); rintro e w' ⟨rfl, ⟨nd, rfl⟩⟩; refine ⟨_, rfl, ?_⟩))
       (try simp only [Act.put, z1, z2, z3])
       go_cut [45] (fun v45 wc => ∃ (kq : Nat) (x45_13 : Bool), v45 = .bool x45_13 ∧ Aside0 (cotterref03_Decode.j1 kq a0 a1 t154 x45_13 (wrap64 (bt a0 a1)) 0 0 0 = some (r1, r2, r3, r4, r5, r6)) ∧ Aside0 (kq ≤ kj2) ∧ Aside0 (wc.heap[gb152]? = some (.cells #[.int .i64 0, .int .i64 0, .int .i64 0, .int .i64 0] 79 (0, 0))) ∧ Aside0 (wc.heap[gb153]? = some (.cells #[.int .i64 (wrap64 (bt a0 a1)), .int .i64 0, .int .i64 0, .int .i64 0] 79 (0, 0))) ∧ Aside0 (Below w.heap.size w wc))
       case first =>
        have H := HC14.out
        clear HC14
        by_cases c18 : t154 = 0
        ·rw [if_pos c18] at H
         have c18b0 : (t154 == 0) = true := z5 c18
         have c18b1 : (t154 != 0) = false := z6 c18
         clear c18
         (first | rw [c18b0] | (simp only [i64_w, i32_w]; rw [c18b0]) | skip)
         have H' := z4 H
         clear H
         go_wp2
         go_meet
         case rel => exact ⟨_, (true), (by first | rfl | (simp; done) | (simp [*]; done)), H', ⟨by have := HJ2.out; first | omega | exact Nat.le_refl _⟩, ⟨by (with_reducible repeat (first | refine zH ?_ _ | refine zI ?_ | refine zG ?_ _)); refine blk_far ?_ NB152_153.out _; (with_reducible repeat (first | refine zH ?_ _ | refine zI ?_ | refine zG ?_ _)); refine blk_far ?_ NB152_153.out _; (with_reducible repeat (first | refine zH ?_ _ | refine zI ?_ | refine zG ?_ _)); refine blk_far ?_ NB152_153.out _; (with_reducible repeat (first | refine zH ?_ _ | refine zI ?_ | refine zG ?_ _)); refine blk_far ?_ NB152_153.out _; (with_reducible repeat (first | refine zH ?_ _ | refine zI ?_ | refine zG ?_ _)); exact BK152.out⟩, ⟨by (with_reducible repeat (first | refine zH ?_ _ | refine zI ?_ | refine zG ?_ _)); refine blk_put (cs := #[.int .i64 (wrap64 (bt a0 a1)), .int .i64 0, .int .i64 0, .int .i64 0]) ?_ 3 _ rfl; (with_reducible repeat (first | refine zH ?_ _ | refine zI ?_ | refine zG ?_ _)); refine blk_put (cs := #[.int .i64 (wrap64 (bt a0 a1)), .int .i64 0, .int .i64 0, .int .i64 0]) ?_ 2 _ rfl; (with_reducible repeat (first | refine zH ?_ _ | refine zI ?_ | refine zG ?_ _)); refine blk_put (cs := #[.int .i64 (wrap64 (bt a0 a1)), .int .i64 0, .int .i64 0, .int .i64 0]) ?_ 1 _ rfl; (with_reducible repeat (first | refine zH ?_ _ | refine zI ?_ | refine zG ?_ _)); refine blk_put (cs := #[.int .i64 0, .int .i64 0, .int .i64 0, .int .i64 0]) ?_ 0 _ rfl; (with_reducible repeat (first | refine zH ?_ _ | refine zI ?_ | refine zG ?_ _)); exact BK153.out⟩, ⟨by repeat (first | exact HB.out | apply zA | apply zB | apply zD | refine zJ ?_ GE152.out | refine zJ ?_ GE153.out)⟩⟩
        ·rw [if_neg c18] at H
         have c18b0 : (t154 == 0) = false := z7 c18
         have c18b1 : (t154 != 0) = true := bne_iff_ne.mpr c18
         (first | rw [c18b0] | (simp only [i64_w, i32_w]; rw [c18b0]) | skip)
         have H' := z4 H
         clear H
         go_wp2
         go_meet
         case rel => exact ⟨_, (decide ((wrap64 (a1 + t154)) > (a0.size : Int))), (by first | rfl | (simp; done) | (simp [*]; done)), H', ⟨by have := HJ2.out; first | omega | exact Nat.le_refl _⟩, ⟨by (with_reducible repeat (first | refine zH ?_ _ | refine zI ?_ | refine zG ?_ _)); refine blk_far ?_ NB152_153.out _; (with_reducible repeat (first | refine zH ?_ _ | refine zI ?_ | refine zG ?_ _)); refine blk_far ?_ NB152_153.out _; (with_reducible repeat (first | refine zH ?_ _ | refine zI ?_ | refine zG ?_ _)); refine blk_far ?_ NB152_153.out _; (with_reducible repeat (first | refine zH ?_ _ | refine zI ?_ | refine zG ?_ _)); refine blk_far ?_ NB152_153.out _; (with_reducible repeat (first | refine zH ?_ _ | refine zI ?_ | refine zG ?_ _)); exact BK152.out⟩, ⟨by (with_reducible repeat (first | refine zH ?_ _ | refine zI ?_ | refine zG ?_ _)); refine blk_put (cs := #[.int .i64 (wrap64 (bt a0 a1)), .int .i64 0, .int .i64 0, .int .i64 0]) ?_ 3 _ rfl; (with_reducible repeat (first | refine zH ?_ _ | refine zI ?_ | refine zG ?_ _)); refine blk_put (cs := #[.int .i64 (wrap64 (bt a0 a1)), .int .i64 0, .int .i64 0, .int .i64 0]) ?_ 2 _ rfl; (with_reducible repeat (first | refine zH ?_ _ | refine zI ?_ | refine zG ?_ _)); refine blk_put (cs := #[.int .i64 (wrap64 (bt a0 a1)), .int .i64 0, .int .i64 0, .int .i64 0]) ?_ 1 _ rfl; (with_reducible repeat (first | refine zH ?_ _ | refine zI ?_ | refine zG ?_ _)); refine blk_put (cs := #[.int .i64 0, .int .i64 0, .int .i64 0, .int .i64 0]) ?_ 0 _ rfl; (with_reducible repeat (first | refine zH ?_ _ | refine zI ?_ | refine zG ?_ _)); exact BK153.out⟩, ⟨by repeat (first | exact HB.out | apply zA | apply zB | apply zD | refine zJ ?_ GE152.out | refine zJ ?_ GE153.out)⟩⟩
       case rest =>
        clear HC14
        try clear c1
        try clear p1
        try clear q1
        try clear hx1
        try clear p2
        try clear c3
        try clear c5
        try clear c5b0
        try clear c6
        try clear p6
        try clear c8
        try clear c8b0
        try clear c8b1
        try clear c10
        try clear c10b0
        try clear c11
        try clear c11b0
        try clear p12
        try clear q12
        try clear hx12
        try clear c16
        try clear c18
        try clear c18b0
        try clear c18b1
        try clear hcz17_0
        try clear hcz17_1
        try clear hcz17_2
        try clear hcz17_3
        try clear hcz7_0
        try clear hcz7_1
        try clear hcz7_2
        try clear hcz7_3
        try clear hcz9_0
        try clear hcz9_1
        try clear hcz9_2
        try clear hcz9_3
        try clear hfz17_0
        try clear hfz17_1
        try clear hfz17_2
        try clear hfz17_3
        try clear hfz7_0
        try clear hfz7_1
        try clear hfz7_2
        try clear hfz7_3
        try clear hfz9_0
        try clear hfz9_1
        try clear hfz9_2
        try clear hfz9_3
        try clear p12
        try clear p2
        try clear q12
        obtain ⟨kq, x45_13, rfl, HA, HJ13, BK152, BK153, HB⟩ := hcut
        cases kq with
        | zero => exact absurd HA.out (by simp [cotterref03_Decode.j1])
        | succ kj13 =>
         have H := HA.out
         clear HA
         simp only [cotterref03_Decode.j1] at H
         by_cases c19 : x45_13 = true
         ·subst c19
          have H1 : (some (0, 0, 0, 0, 0, 9)) = some (r1, r2, r3, r4, r5, r6) := by rw [if_pos rfl] at H; exact H
          clear H
          have H := H1
          clear H1
          simp only [Option.some.injEq, Prod.mk.injEq] at H
          obtain ⟨rfl, rfl, rfl, rfl, rfl, rfl⟩ := H
          have hnb20 := NB152_153.out
          have hnc20 := NB153_152.out
          have hcz21_0 : wc.cell? ⟨gb152, 0, none⟩ = some (.int .i64 0) := (zC BK152.out 0).trans rfl
          have hcz21_1 : wc.cell? ⟨gb152, 1, none⟩ = some (.int .i64 0) := (zC BK152.out 1).trans rfl
          have hcz21_2 : wc.cell? ⟨gb152, 2, none⟩ = some (.int .i64 0) := (zC BK152.out 2).trans rfl
          have hcz21_3 : wc.cell? ⟨gb152, 3, none⟩ = some (.int .i64 0) := (zC BK152.out 3).trans rfl
          have hfz21_0 := zF BK152.out 0
          have hfz21_1 := zF BK152.out 1
          have hfz21_2 := zF BK152.out 2
          have hfz21_3 := zF BK152.out 3
          go_wp2
          refine bodyPost_ret (results_ctt rfl _ _ gb152 79 #[.int .i64 0, .int .i64 0, .int .i64 0, .int .i64 0] (0, 0) _ rfl (by (with_reducible repeat (first | refine zH ?_ _ | refine zI ?_ | refine zG ?_ _)); refine blk_put (cs := #[.int .i64 0, .int .i64 0, .int .i64 0, .int .i64 0]) ?_ 3 _ rfl; (with_reducible repeat (first | refine zH ?_ _ | refine zI ?_ | refine zG ?_ _)); refine blk_put (cs := #[.int .i64 0, .int .i64 0, .int .i64 0, .int .i64 0]) ?_ 2 _ rfl; (with_reducible repeat (first | refine zH ?_ _ | refine zI ?_ | refine zG ?_ _)); refine blk_put (cs := #[.int .i64 0, .int .i64 0, .int .i64 0, .int .i64 0]) ?_ 1 _ rfl; (with_reducible repeat (first | refine zH ?_ _ | refine zI ?_ | refine zG ?_ _)); refine blk_put (cs := #[.int .i64 0, .int .i64 0, .int .i64 0, .int .i64 0]) ?_ 0 _ rfl; (with_reducible repeat (first | refine zH ?_ _ | refine zI ?_ | refine zG ?_ _)); exact BK152.out) Tryd.underlying79 rfl (by kernel_rfl)) rfl ?_
          exact ⟨by first | rfl | (simp [errW_none, errW_some] <;> rfl) | (simp [*, errW_none, errW_some] <;> rfl), by repeat (first | exact HB.out | apply zA | apply zB | apply zD | refine zJ ?_ GE152.out | refine zJ ?_ GE153.out)⟩
         ·replace c19 := Bool.eq_false_iff.mpr c19
          subst c19
          have H1 : ((cotterref03_form.f kj13 (wrap64 (bt a0 a1))).bind fun t155 => ((cotterref03_parts.f kj13 t155).bind fun bt156 => (if bt156.2.1 = true then (if 0 ≤ (wrap64 (a1 + 1)) then (if (wrap64 (a1 + 1)) < (a0.size : Int) then (cotterref03_Decode.j2 kj13 a0 a1 t154 bt156.2.2 (wrap64 (bt a0 a1)) (wrap64 (Int.tdiv (wrap64 (bt a0 (wrap64 (a1 + 1)))) 16)) (Int.tmod (wrap64 (bt a0 (wrap64 (a1 + 1)))) 16) 0) else (none)) else (none)) else (if bt156.1 = true then (if 0 ≤ (wrap64 (a1 + 1)) then (if (wrap64 (a1 + 1)) < (a0.size : Int) then (cotterref03_Decode.j2 kj13 a0 a1 t154 bt156.2.2 (wrap64 (bt a0 a1)) (wrap64 (bt a0 (wrap64 (a1 + 1)))) 0 0) else (none)) else (none)) else (cotterref03_Decode.j2 kj13 a0 a1 t154 bt156.2.2 (wrap64 (bt a0 a1)) 0 0 0))))) = some (r1, r2, r3, r4, r5, r6) := by rw [if_neg (show ¬ (false = true) by decide)] at H; exact H
          clear H
          have H := H1
          clear H1
          replace H := z8 H
          obtain ⟨t155, A220, H⟩ := H
          replace H : ((cotterref03_parts.f kj13 t155).bind fun bt156 => (if bt156.2.1 = true then (if 0 ≤ (wrap64 (a1 + 1)) then (if (wrap64 (a1 + 1)) < (a0.size : Int) then (cotterref03_Decode.j2 kj13 a0 a1 t154 bt156.2.2 (wrap64 (bt a0 a1)) (wrap64 (Int.tdiv (wrap64 (bt a0 (wrap64 (a1 + 1)))) 16)) (Int.tmod (wrap64 (bt a0 (wrap64 (a1 + 1)))) 16) 0) else (none)) else (none)) else (if bt156.1 = true then (if 0 ≤ (wrap64 (a1 + 1)) then (if (wrap64 (a1 + 1)) < (a0.size : Int) then (cotterref03_Decode.j2 kj13 a0 a1 t154 bt156.2.2 (wrap64 (bt a0 a1)) (wrap64 (bt a0 (wrap64 (a1 + 1)))) 0 0) else (none)) else (none)) else (cotterref03_Decode.j2 kj13 a0 a1 t154 bt156.2.2 (wrap64 (bt a0 a1)) 0 0 0)))) = some (r1, r2, r3, r4, r5, r6) := H
          have A22 := z4 A220
          clear A220
          replace H := z8 H
          obtain ⟨⟨t156, t157, t158⟩, A230, H⟩ := H
          replace H : (if t157 = true then (if 0 ≤ (wrap64 (a1 + 1)) then (if (wrap64 (a1 + 1)) < (a0.size : Int) then (cotterref03_Decode.j2 kj13 a0 a1 t154 t158 (wrap64 (bt a0 a1)) (wrap64 (Int.tdiv (wrap64 (bt a0 (wrap64 (a1 + 1)))) 16)) (Int.tmod (wrap64 (bt a0 (wrap64 (a1 + 1)))) 16) 0) else (none)) else (none)) else (if t156 = true then (if 0 ≤ (wrap64 (a1 + 1)) then (if (wrap64 (a1 + 1)) < (a0.size : Int) then (cotterref03_Decode.j2 kj13 a0 a1 t154 t158 (wrap64 (bt a0 a1)) (wrap64 (bt a0 (wrap64 (a1 + 1)))) 0 0) else (none)) else (none)) else (cotterref03_Decode.j2 kj13 a0 a1 t154 t158 (wrap64 (bt a0 a1)) 0 0 0))) = some (r1, r2, r3, r4, r5, r6) := H
          have A23 := z4 A230
          clear A230
          have HC24 := z4 H
          clear H
          have hnb25 := NB153_152.out
          have hnc25 := NB152_153.out
          have hcz26_0 : wc.cell? ⟨gb153, 0, none⟩ = some (.int .i64 (wrap64 (bt a0 a1))) := (zC BK153.out 0).trans rfl
          have hcz26_1 : wc.cell? ⟨gb153, 1, none⟩ = some (.int .i64 0) := (zC BK153.out 1).trans rfl
          have hcz26_2 : wc.cell? ⟨gb153, 2, none⟩ = some (.int .i64 0) := (zC BK153.out 2).trans rfl
          have hcz26_3 : wc.cell? ⟨gb153, 3, none⟩ = some (.int .i64 0) := (zC BK153.out 3).trans rfl
          have hfz26_0 := zF BK153.out 0
          have hfz26_1 := zF BK153.out 1
          have hfz26_2 := zF BK153.out 2
          have hfz26_3 := zF BK153.out 3
          go_upto_if 55 with (first | ((with_reducible refine gate_callee (f := 66) rfl ?_); refine goesL_ (some 50) rfl rfl Tryd.func66 (by kernel_rfl) rfl #[.int .i64 (wrap64 (bt a0 a1))] rfl (by (try simp only [z9, List.map_cons, List.map_nil]); first | done | rfl | (simp only [z9a, z9b]; rfl)) ?_; (with_reducible refine (cotterref03_form.calls kj13 (wrap64 (bt a0 a1)) t155 _ A22.out).mono ?_); rintro e w' ⟨rfl, ⟨nd, rfl⟩⟩; refine ⟨_, rfl, ?_⟩) | ((with_reducible refine gate_callee (f := 67) rfl ?_); refine goesL_ (some 51) rfl rfl Tryd.func67 (by kernel_rfl) rfl #[.int .i64 t155] rfl (by (try simp only [z9, List.map_cons, List.map_nil]); first | done | rfl | (simp only [z9a, z9b]; rfl)) ?_; (with_reducible refine (cotterref03_parts.calls kj13 t155 t156 t157 t158 _ A23.out).mono ?_); rintro e w' ⟨rfl, ⟨nd, rfl⟩⟩; refine ⟨_, rfl, ?_⟩))
          (try simp only [Act.put, z1, z2, z3])
          go_cut [] (fun wc => ∃ (kq : Nat) (x154001_23 : Int) (x154002_23 : Int), Aside0 (cotterref03_Decode.j2 kq a0 a1 t154 t158 (wrap64 (bt a0 a1)) x154001_23 x154002_23 0 = some (r1, r2, r3, r4, r5, r6)) ∧ Aside0 (kq ≤ kj13) ∧ Aside0 (wc.heap[gb152]? = some (.cells #[.int .i64 0, .int .i64 0, .int .i64 0, .int .i64 0] 79 (0, 0))) ∧ Aside0 (wc.heap[gb153]? = some (.cells #[.int .i64 (wrap64 (bt a0 a1)), .int .i64 x154001_23, .int .i64 x154002_23, .int .i64 0] 79 (0, 0))) ∧ Aside0 (Below w.heap.size w wc))
          case first =>
           have H := HC24.out
           clear HC24
           by_cases c27 : t157 = true
           ·subst c27
            have H1 : (if 0 ≤ (wrap64 (a1 + 1)) then (if (wrap64 (a1 + 1)) < (a0.size : Int) then (cotterref03_Decode.j2 kj13 a0 a1 t154 t158 (wrap64 (bt a0 a1)) (wrap64 (Int.tdiv (wrap64 (bt a0 (wrap64 (a1 + 1)))) 16)) (Int.tmod (wrap64 (bt a0 (wrap64 (a1 + 1)))) 16) 0) else (none)) else (none)) = some (r1, r2, r3, r4, r5, r6) := by rw [if_pos rfl] at H; exact H
            clear H
            have H := H1
            clear H1
            obtain ⟨ji28, hji28⟩ : ∃ j_ : Int, (wrap64 (a1 + 1)) = j_ := ⟨_, rfl⟩
            replace H : (if 0 ≤ (ji28) then (if (ji28) < (a0.size : Int) then (cotterref03_Decode.j2 kj13 a0 a1 t154 t158 (wrap64 (bt a0 a1)) (wrap64 (Int.tdiv (wrap64 (bt a0 (ji28))) 16)) (Int.tmod (wrap64 (bt a0 (ji28))) 16) 0) else (none)) else (none)) = some (r1, r2, r3, r4, r5, r6) := by first | (rw [hji28] at H; exact H) | (simp only [hji28] at H ⊢; exact H)
            have hji28w : (IntKind.i64.wrap (a1 + 1)) = ji28 := (i64_w _).trans hji28
            by_cases c29 : 0 ≤ (ji28)
            ·rw [if_pos c29] at H
             have c29b0 : decide (0 ≤ (ji28)) = true := decide_eq_true c29
             clear c29
             (first | rw [c29b0] | (simp only [i64_w, i32_w]; rw [c29b0]) | skip)
             by_cases c30 : (ji28) < (a0.size : Int)
             ·rw [if_pos c30] at H
              have c30b0 : decide ((ji28) < (a0.size : Int)) = true := decide_eq_true c30
              clear c30
              have H' := z4 H
              clear H
              have p31 : 0 ≤ ((ji28) : Int) := of_decide_eq_true (by first | (with_reducible assumption) | assumption)
              have q31 : (ji28) < (a0.size : Int) := of_decide_eq_true (by first | (with_reducible assumption) | assumption)
              have hx31 := bt_at a0 (ji28)
              replace p31 := eq_true p31
              replace q31 := eq_true q31
              have hnb33 := NB153_152.out
              have hnc33 := NB152_153.out
              have hcz34_0 : wc.cell? ⟨gb153, 0, none⟩ = some (.int .i64 (wrap64 (bt a0 a1))) := (zC BK153.out 0).trans rfl
              have hcz34_1 : wc.cell? ⟨gb153, 1, none⟩ = some (.int .i64 0) := (zC BK153.out 1).trans rfl
              have hcz34_2 : wc.cell? ⟨gb153, 2, none⟩ = some (.int .i64 0) := (zC BK153.out 2).trans rfl
              have hcz34_3 : wc.cell? ⟨gb153, 3, none⟩ = some (.int .i64 0) := (zC BK153.out 3).trans rfl
              have hfz34_0 := zF BK153.out 0
              have hfz34_1 := zF BK153.out 1
              have hfz34_2 := zF BK153.out 2
              have hfz34_3 := zF BK153.out 3
              have p32 : 0 ≤ ((ji28) : Int) := of_decide_eq_true (by first | (with_reducible assumption) | assumption)
              have q32 : (ji28) < (a0.size : Int) := of_decide_eq_true (by first | (with_reducible assumption) | assumption)
              have hx32 := bt_at a0 (ji28)
              replace p32 := eq_true p32
              replace q32 := eq_true q32
              go_wp2
              go_meet
              case rel => exact ⟨_, (wrap64 (Int.tdiv (wrap64 (bt a0 (ji28))) 16)), (Int.tmod (wrap64 (bt a0 (ji28))) 16), H', ⟨by have := HJ2.out; have := HJ13.out; first | omega | exact Nat.le_refl _⟩, ⟨by (with_reducible repeat (first | refine zH ?_ _ | refine zI ?_ | refine zG ?_ _)); refine blk_far ?_ NB152_153.out _; (with_reducible repeat (first | refine zH ?_ _ | refine zI ?_ | refine zG ?_ _)); refine blk_far ?_ NB152_153.out _; (with_reducible repeat (first | refine zH ?_ _ | refine zI ?_ | refine zG ?_ _)); exact BK152.out⟩, ⟨by (with_reducible repeat (first | refine zH ?_ _ | refine zI ?_ | refine zG ?_ _)); refine blk_put (cs := #[.int .i64 (wrap64 (bt a0 a1)), .int .i64 (wrap64 (Int.tdiv (wrap64 (bt a0 (ji28))) 16)), .int .i64 0, .int .i64 0]) ?_ 2 _ rfl; (with_reducible repeat (first | refine zH ?_ _ | refine zI ?_ | refine zG ?_ _)); refine blk_put (cs := #[.int .i64 (wrap64 (bt a0 a1)), .int .i64 0, .int .i64 0, .int .i64 0]) ?_ 1 _ rfl; (with_reducible repeat (first | refine zH ?_ _ | refine zI ?_ | refine zG ?_ _)); exact BK153.out⟩, ⟨by repeat (first | exact HB.out | apply zA | apply zB | apply zD | refine zJ ?_ GE152.out | refine zJ ?_ GE153.out)⟩⟩
             ·rw [if_neg c30] at H
              exact absurd H (by simp)
            ·rw [if_neg c29] at H
             exact absurd H (by simp)
           ·replace c27 := Bool.eq_false_iff.mpr c27
            subst c27
            have H1 : (if t156 = true then (if 0 ≤ (wrap64 (a1 + 1)) then (if (wrap64 (a1 + 1)) < (a0.size : Int) then (cotterref03_Decode.j2 kj13 a0 a1 t154 t158 (wrap64 (bt a0 a1)) (wrap64 (bt a0 (wrap64 (a1 + 1)))) 0 0) else (none)) else (none)) else (cotterref03_Decode.j2 kj13 a0 a1 t154 t158 (wrap64 (bt a0 a1)) 0 0 0)) = some (r1, r2, r3, r4, r5, r6) := by rw [if_neg (show ¬ (false = true) by decide)] at H; exact H
            clear H
            have H := H1
            clear H1
            by_cases c35 : t156 = true
            ·subst c35
             have H1 : (if 0 ≤ (wrap64 (a1 + 1)) then (if (wrap64 (a1 + 1)) < (a0.size : Int) then (cotterref03_Decode.j2 kj13 a0 a1 t154 t158 (wrap64 (bt a0 a1)) (wrap64 (bt a0 (wrap64 (a1 + 1)))) 0 0) else (none)) else (none)) = some (r1, r2, r3, r4, r5, r6) := by rw [if_pos rfl] at H; exact H
             clear H
             have H := H1
             clear H1
             obtain ⟨ji36, hji36⟩ : ∃ j_ : Int, (wrap64 (a1 + 1)) = j_ := ⟨_, rfl⟩
             replace H : (if 0 ≤ (ji36) then (if (ji36) < (a0.size : Int) then (cotterref03_Decode.j2 kj13 a0 a1 t154 t158 (wrap64 (bt a0 a1)) (wrap64 (bt a0 (ji36))) 0 0) else (none)) else (none)) = some (r1, r2, r3, r4, r5, r6) := by first | (rw [hji36] at H; exact H) | (simp only [hji36] at H ⊢; exact H)
             have hji36w : (IntKind.i64.wrap (a1 + 1)) = ji36 := (i64_w _).trans hji36
             by_cases c37 : 0 ≤ (ji36)
             ·rw [if_pos c37] at H
              have c37b0 : decide (0 ≤ (ji36)) = true := decide_eq_true c37
              clear c37
              by_cases c38 : (ji36) < (a0.size : Int)
              ·rw [if_pos c38] at H
               have c38b0 : decide ((ji36) < (a0.size : Int)) = true := decide_eq_true c38
               clear c38
               have H' := z4 H
               clear H
               have p39 : 0 ≤ ((ji36) : Int) := of_decide_eq_true (by first | (with_reducible assumption) | assumption)
               have q39 : (ji36) < (a0.size : Int) := of_decide_eq_true (by first | (with_reducible assumption) | assumption)
               have hx39 := bt_at a0 (ji36)
               replace p39 := eq_true p39
               replace q39 := eq_true q39
               have hnb40 := NB153_152.out
               have hnc40 := NB152_153.out
               have hcz41_0 : wc.cell? ⟨gb153, 0, none⟩ = some (.int .i64 (wrap64 (bt a0 a1))) := (zC BK153.out 0).trans rfl
               have hcz41_1 : wc.cell? ⟨gb153, 1, none⟩ = some (.int .i64 0) := (zC BK153.out 1).trans rfl
               have hcz41_2 : wc.cell? ⟨gb153, 2, none⟩ = some (.int .i64 0) := (zC BK153.out 2).trans rfl
               have hcz41_3 : wc.cell? ⟨gb153, 3, none⟩ = some (.int .i64 0) := (zC BK153.out 3).trans rfl
               have hfz41_0 := zF BK153.out 0
               have hfz41_1 := zF BK153.out 1
               have hfz41_2 := zF BK153.out 2
               have hfz41_3 := zF BK153.out 3
               go_wp2
               go_meet
               case rel => exact ⟨_, (wrap64 (bt a0 (ji36))), (0), H', ⟨by have := HJ2.out; have := HJ13.out; first | omega | exact Nat.le_refl _⟩, ⟨by (with_reducible repeat (first | refine zH ?_ _ | refine zI ?_ | refine zG ?_ _)); refine blk_far ?_ NB152_153.out _; (with_reducible repeat (first | refine zH ?_ _ | refine zI ?_ | refine zG ?_ _)); exact BK152.out⟩, ⟨by (with_reducible repeat (first | refine zH ?_ _ | refine zI ?_ | refine zG ?_ _)); refine blk_put (cs := #[.int .i64 (wrap64 (bt a0 a1)), .int .i64 0, .int .i64 0, .int .i64 0]) ?_ 1 _ rfl; (with_reducible repeat (first | refine zH ?_ _ | refine zI ?_ | refine zG ?_ _)); exact BK153.out⟩, ⟨by repeat (first | exact HB.out | apply zA | apply zB | apply zD | refine zJ ?_ GE152.out | refine zJ ?_ GE153.out)⟩⟩
              ·rw [if_neg c38] at H
               exact absurd H (by simp)
             ·rw [if_neg c37] at H
              exact absurd H (by simp)
            ·replace c35 := Bool.eq_false_iff.mpr c35
             subst c35
             have H1 : (cotterref03_Decode.j2 kj13 a0 a1 t154 t158 (wrap64 (bt a0 a1)) 0 0 0) = some (r1, r2, r3, r4, r5, r6) := by rw [if_neg (show ¬ (false = true) by decide)] at H; exact H
             clear H
             have H := H1
             clear H1
             have H' := z4 H
             clear H
             go_wp2
             go_meet
             case rel => exact ⟨_, (0), (0), H', ⟨by have := HJ2.out; have := HJ13.out; first | omega | exact Nat.le_refl _⟩, ⟨by (with_reducible repeat (first | refine zH ?_ _ | refine zI ?_ | refine zG ?_ _)); exact BK152.out⟩, ⟨by (with_reducible repeat (first | refine zH ?_ _ | refine zI ?_ | refine zG ?_ _)); exact BK153.out⟩, ⟨by repeat (first | exact HB.out | apply zA | apply zB | apply zD | refine zJ ?_ GE152.out | refine zJ ?_ GE153.out)⟩⟩
          case rest =>
           clear HC24
           try clear c1
           try clear p1
           try clear q1
           try clear hx1
           try clear c2
           try clear p2
           try clear c3
           try clear p3
           try clear q3
           try clear hx3
           try clear c4
           try clear c5
           try clear c5b0
           try clear c6
           try clear p6
           try clear c8
           try clear c8b0
           try clear c8b1
           try clear c10
           try clear c10b0
           try clear c11
           try clear c11b0
           try clear p12
           try clear q12
           try clear hx12
           try clear c16
           try clear c18
           try clear c18b0
           try clear c18b1
           try clear c19
           try clear c20
           try clear c25
           try clear c27
           try clear c29
           try clear c29b0
           try clear c30
           try clear c30b0
           try clear p31
           try clear q31
           try clear hx31
           try clear p32
           try clear q32
           try clear hx32
           try clear c33
           try clear c35
           try clear c37
           try clear c37b0
           try clear c38
           try clear c38b0
           try clear c39
           try clear p39
           try clear q39
           try clear hx39
           try clear c40
           try clear hcz17_0
           try clear hcz17_1
           try clear hcz17_2
           try clear hcz17_3
           try clear hcz21_0
           try clear hcz21_1
           try clear hcz21_2
           try clear hcz21_3
           try clear hcz26_0
           try clear hcz26_1
           try clear hcz26_2
           try clear hcz26_3
           try clear hcz34_0
           try clear hcz34_1
           try clear hcz34_2
           try clear hcz34_3
           try clear hcz41_0
           try clear hcz41_1
           try clear hcz41_2
           try clear hcz41_3
           try clear hcz7_0
           try clear hcz7_1
           try clear hcz7_2
           try clear hcz7_3
           try clear hcz9_0
           try clear hcz9_1
           try clear hcz9_2
           try clear hcz9_3
           try clear hfz17_0
           try clear hfz17_1
           try clear hfz17_2
           try clear hfz17_3
           try clear hfz21_0
           try clear hfz21_1
           try clear hfz21_2
           try clear hfz21_3
           try clear hfz26_0
           try clear hfz26_1
           try clear hfz26_2
           try clear hfz26_3
           try clear hfz34_0
           try clear hfz34_1
           try clear hfz34_2
           try clear hfz34_3
           try clear hfz41_0
           try clear hfz41_1
           try clear hfz41_2
           try clear hfz41_3
           try clear hfz7_0
           try clear hfz7_1
           try clear hfz7_2
           try clear hfz7_3
           try clear hfz9_0
           try clear hfz9_1
           try clear hfz9_2
           try clear hfz9_3
           try clear p1
           try clear p12
           try clear p2
           try clear p31
           try clear p32
           try clear p39
           try clear p6
           try clear q1
           try clear q12
           try clear q31
           try clear q32
           try clear q39
           obtain ⟨kq, x154001_23, x154002_23, HA, HJ23, BK152, BK153, HB⟩ := hcut
           cases kq with
           | zero => exact absurd HA.out (by simp [cotterref03_Decode.j2])
           | succ kj23 =>
            have H := HA.out
            clear HA
            simp only [cotterref03_Decode.j2] at H
            by_cases c42 : t158 > 0
            ·rw [if_pos c42] at H
             have c42b0 : decide (0 < t158) = true := decide_eq_true c42
             clear c42
             obtain ⟨ji43, hji43⟩ : ∃ j_ : Int, (wrap64 ((wrap64 (a1 + t154)) - t158)) = j_ := ⟨_, rfl⟩
             replace H : (if 0 ≤ (ji43) then (if (ji43) ≤ (wrap64 (a1 + t154)) then (if (wrap64 (a1 + t154)) ≤ (a0.size : Int) then ((cotterref01_Number.f kj23 (a0.extract ((ji43) : Int).toNat ((wrap64 (a1 + t154)) : Int).toNat)).bind fun bt159 => ((cotterref03_Encode.f kj23 (wrap64 (bt a0 a1)) x154001_23 x154002_23 bt159.1).bind fun bt161 => (if bt161.2 = 0 then (some ((wrap64 (bt a0 a1)), x154001_23, x154002_23, bt159.1, wrap64 (a1 + t154), 0)) else (some (0, 0, 0, 0, 0, 9))))) else (none)) else (none)) else (none)) = some (r1, r2, r3, r4, r5, r6) := by first | (rw [hji43] at H; exact H) | (simp only [hji43] at H ⊢; exact H)
             have hji43w : (IntKind.i64.wrap ((wrap64 (a1 + t154)) - t158)) = ji43 := (i64_w _).trans hji43
             by_cases c44 : 0 ≤ (ji43)
             ·rw [if_pos c44] at H
              have c44b0 := eq_true c44
              have c44b1 : decide (0 ≤ (ji43)) = true := decide_eq_true c44
              clear c44
              by_cases c45 : (ji43) ≤ (wrap64 (a1 + t154))
              ·rw [if_pos c45] at H
               have c45b0 := eq_true c45
               have c45b1 : decide ((ji43) ≤ (wrap64 (a1 + t154))) = true := decide_eq_true c45
               by_cases c46 : (wrap64 (a1 + t154)) ≤ (a0.size : Int)
               ·rw [if_pos c46] at H
                have c46b0 := eq_true c46
                have c46b1 : decide ((wrap64 (a1 + t154)) ≤ (a0.size : Int)) = true := decide_eq_true c46
                replace H := z8 H
                obtain ⟨⟨t159, t160⟩, A470, H⟩ := H
                replace H : ((cotterref03_Encode.f kj23 (wrap64 (bt a0 a1)) x154001_23 x154002_23 t159).bind fun bt161 => (if bt161.2 = 0 then (some ((wrap64 (bt a0 a1)), x154001_23, x154002_23, t159, wrap64 (a1 + t154), 0)) else (some (0, 0, 0, 0, 0, 9)))) = some (r1, r2, r3, r4, r5, r6) := H
                have A47 := z4 A470
                clear A470
                replace H := z8 H
                obtain ⟨⟨t161, t162⟩, A480, H⟩ := H
                replace H : (if t162 = 0 then (some ((wrap64 (bt a0 a1)), x154001_23, x154002_23, t159, wrap64 (a1 + t154), 0)) else (some (0, 0, 0, 0, 0, 9))) = some (r1, r2, r3, r4, r5, r6) := H
                have A48 := z4 A480
                clear A480
                by_cases c49 : t162 = 0
                ·rw [if_pos c49] at H
                 have c49b0 : (t162 == 0) = true := z5 c49
                 have c49b1 : (t162 != 0) = false := z6 c49
                 clear c49
                 simp only [Option.some.injEq, Prod.mk.injEq] at H
                 obtain ⟨rfl, rfl, rfl, rfl, rfl, rfl⟩ := H
                 go_wp2_with (first | ((with_reducible refine gate_callee (f := 81) rfl ?_); refine goesL_ (some 90) rfl rfl Tryd.func81 (by kernel_rfl) rfl #[.string (a0.extract ((ji43) : Int).toNat ((wrap64 (a1 + t154)) : Int).toNat)] rfl (by (try simp only [z9, List.map_cons, List.map_nil]); first | done | (simp only [hji43]; rfl) | rfl | (simp only [z9a, z9b]; rfl)) ?_; (with_reducible refine (cotterref01_Number.calls kj23 (a0.extract ((ji43) : Int).toNat ((wrap64 (a1 + t154)) : Int).toNat) t159 t160 _ A47.out).mono ?_); rintro e w' ⟨rfl, ⟨nd, rfl⟩⟩; refine ⟨_, rfl, ?_⟩; (try (rw [drewN_self wc]; generalize hq_ : World.drewN wc _ = wc; have n0_ : Aside0 (wc.heap[gb152]? = some (.cells #[.int .i64 0, .int .i64 0, .int .i64 0, .int .i64 0] 79 (0, 0))) := ⟨by rw [← hq_]; exact (by (with_reducible repeat (first | refine zH ?_ _ | refine zI ?_ | refine zG ?_ _)); exact BK152.out)⟩; have n1_ : Aside0 (wc.heap[gb153]? = some (.cells #[.int .i64 (wrap64 (bt a0 a1)), .int .i64 x154001_23, .int .i64 x154002_23, .int .i64 0] 79 (0, 0))) := ⟨by rw [← hq_]; exact (by (with_reducible repeat (first | refine zH ?_ _ | refine zI ?_ | refine zG ?_ _)); exact BK153.out)⟩; have n2_ : Aside0 (Below w.heap.size w wc) := ⟨by rw [← hq_]; exact (by repeat (first | exact HB.out | apply zA | apply zB | apply zD | refine zJ ?_ GE152.out | refine zJ ?_ GE153.out))⟩; clear BK152 BK153 HB hq_; have BK152 := n0_; have BK153 := n1_; have HB := n2_; clear n0_ n1_ n2_; have hcq152_0 : wc.cell? ⟨gb152, 0, none⟩ = some (.int .i64 0) := (zC BK152.out 0).trans rfl; have hfq152_0 := zF BK152.out 0; have hcq152_1 : wc.cell? ⟨gb152, 1, none⟩ = some (.int .i64 0) := (zC BK152.out 1).trans rfl; have hfq152_1 := zF BK152.out 1; have hcq152_2 : wc.cell? ⟨gb152, 2, none⟩ = some (.int .i64 0) := (zC BK152.out 2).trans rfl; have hfq152_2 := zF BK152.out 2; have hcq152_3 : wc.cell? ⟨gb152, 3, none⟩ = some (.int .i64 0) := (zC BK152.out 3).trans rfl; have hfq152_3 := zF BK152.out 3; have hcq153_0 : wc.cell? ⟨gb153, 0, none⟩ = some (.int .i64 (wrap64 (bt a0 a1))) := (zC BK153.out 0).trans rfl; have hfq153_0 := zF BK153.out 0; have hcq153_1 : wc.cell? ⟨gb153, 1, none⟩ = some (.int .i64 x154001_23) := (zC BK153.out 1).trans rfl; have hfq153_1 := zF BK153.out 1; have hcq153_2 : wc.cell? ⟨gb153, 2, none⟩ = some (.int .i64 x154002_23) := (zC BK153.out 2).trans rfl; have hfq153_2 := zF BK153.out 2; have hcq153_3 : wc.cell? ⟨gb153, 3, none⟩ = some (.int .i64 0) := (zC BK153.out 3).trans rfl; have hfq153_3 := zF BK153.out 3)); have hnb50 := NB153_152.out; have hnc50 := NB152_153.out; have hcz51_0 : wc.cell? ⟨gb153, 0, none⟩ = some (.int .i64 (wrap64 (bt a0 a1))) := (zC BK153.out 0).trans rfl; have hcz51_1 : wc.cell? ⟨gb153, 1, none⟩ = some (.int .i64 x154001_23) := (zC BK153.out 1).trans rfl; have hcz51_2 : wc.cell? ⟨gb153, 2, none⟩ = some (.int .i64 x154002_23) := (zC BK153.out 2).trans rfl; have hcz51_3 : wc.cell? ⟨gb153, 3, none⟩ = some (.int .i64 0) := (zC BK153.out 3).trans rfl; have hfz51_0 := zF BK153.out 0; have hfz51_1 := zF BK153.out 1; have hfz51_2 := zF BK153.out 2; have hfz51_3 := zF BK153.out 3) | ((with_reducible refine gate_callee (f := 82) rfl ?_); refine goesL_ (some 96) rfl rfl Tryd.func82 (by kernel_rfl) rfl #[.agg #[.int .i64 (wrap64 (bt a0 a1)), .int .i64 x154001_23, .int .i64 x154002_23, .int .i64 t159]] rfl (by (try simp only [z9, List.map_cons, List.map_nil]); first | done | rfl | (simp only [z9a, z9b]; rfl)) ?_; (with_reducible refine (cotterref03_Encode.calls kj23 (wrap64 (bt a0 a1)) x154001_23 x154002_23 t159 t161 t162 _ A48.out).mono ?_); rintro e w52 ⟨rfl, hb⟩; refine ⟨_, rfl, ?_⟩; have n0_ := z4 (blk_below (g := gb152) (o := .cells #[.int .i64 0, .int .i64 0, .int .i64 0, .int .i64 0] 79 (0, 0)) (by (with_reducible repeat (first | refine zH ?_ _ | refine zI ?_ | refine zG ?_ _)); refine blk_far ?_ NB152_153.out _; (with_reducible repeat (first | refine zH ?_ _ | refine zI ?_ | refine zG ?_ _)); exact BK152.out) hb); have n1_ := z4 (blk_below (g := gb153) (o := .cells #[.int .i64 (wrap64 (bt a0 a1)), .int .i64 x154001_23, .int .i64 x154002_23, .int .i64 t159] 79 (0, 0)) (by (with_reducible repeat (first | refine zH ?_ _ | refine zI ?_ | refine zG ?_ _)); refine blk_put (cs := #[.int .i64 (wrap64 (bt a0 a1)), .int .i64 x154001_23, .int .i64 x154002_23, .int .i64 0]) ?_ 3 _ rfl; (with_reducible repeat (first | refine zH ?_ _ | refine zI ?_ | refine zG ?_ _)); exact BK153.out) hb); have n2_ := z4 (zK (by repeat (first | exact HB.out | apply zA | apply zB | apply zD | refine zJ ?_ GE152.out | refine zJ ?_ GE153.out)) hb); clear BK152; clear BK153; clear HB; have BK152 := n0_; have BK153 := n1_; have HB := n2_; clear n0_ n1_ n2_; (try clear hb); (try clear hb2); (try clear hk); (try clear hi); have hcz53_0 : w52.cell? ⟨gb153, 0, none⟩ = some (.int .i64 (wrap64 (bt a0 a1))) := (zC BK153.out 0).trans rfl; have hcz53_1 : w52.cell? ⟨gb153, 1, none⟩ = some (.int .i64 x154001_23) := (zC BK153.out 1).trans rfl; have hcz53_2 : w52.cell? ⟨gb153, 2, none⟩ = some (.int .i64 x154002_23) := (zC BK153.out 2).trans rfl; have hcz53_3 : w52.cell? ⟨gb153, 3, none⟩ = some (.int .i64 t159) := (zC BK153.out 3).trans rfl; have hfz53_0 := zF BK153.out 0; have hfz53_1 := zF BK153.out 1; have hfz53_2 := zF BK153.out 2; have hfz53_3 := zF BK153.out 3; have hcz54_0 : w52.cell? ⟨gb152, 0, none⟩ = some (.int .i64 0) := (zC BK152.out 0).trans rfl; have hcz54_1 : w52.cell? ⟨gb152, 1, none⟩ = some (.int .i64 0) := (zC BK152.out 1).trans rfl; have hcz54_2 : w52.cell? ⟨gb152, 2, none⟩ = some (.int .i64 0) := (zC BK152.out 2).trans rfl; have hcz54_3 : w52.cell? ⟨gb152, 3, none⟩ = some (.int .i64 0) := (zC BK152.out 3).trans rfl; have hfz54_0 := zF BK152.out 0; have hfz54_1 := zF BK152.out 1; have hfz54_2 := zF BK152.out 2; have hfz54_3 := zF BK152.out 3))
                 refine bodyPost_ret (results_ctt rfl _ _ gb152 79 #[.int .i64 (wrap64 (bt a0 a1)), .int .i64 x154001_23, .int .i64 x154002_23, .int .i64 t159] (0, 0) _ rfl (by (with_reducible repeat (first | refine zH ?_ _ | refine zI ?_ | refine zG ?_ _)); refine blk_put (cs := #[.int .i64 (wrap64 (bt a0 a1)), .int .i64 x154001_23, .int .i64 x154002_23, .int .i64 0]) ?_ 3 _ rfl; (with_reducible repeat (first | refine zH ?_ _ | refine zI ?_ | refine zG ?_ _)); refine blk_put (cs := #[.int .i64 (wrap64 (bt a0 a1)), .int .i64 x154001_23, .int .i64 0, .int .i64 0]) ?_ 2 _ rfl; (with_reducible repeat (first | refine zH ?_ _ | refine zI ?_ | refine zG ?_ _)); refine blk_put (cs := #[.int .i64 (wrap64 (bt a0 a1)), .int .i64 0, .int .i64 0, .int .i64 0]) ?_ 1 _ rfl; (with_reducible repeat (first | refine zH ?_ _ | refine zI ?_ | refine zG ?_ _)); refine blk_put (cs := #[.int .i64 0, .int .i64 0, .int .i64 0, .int .i64 0]) ?_ 0 _ rfl; (with_reducible repeat (first | refine zH ?_ _ | refine zI ?_ | refine zG ?_ _)); exact BK152.out) Tryd.underlying79 rfl (by kernel_rfl)) rfl ?_
                 exact ⟨by first | rfl | (simp [errW_none, errW_some] <;> rfl) | (simp only [← hji43]; first | rfl | (simp [errW_none, errW_some] <;> rfl)) | (simp [*, errW_none, errW_some] <;> rfl), by repeat (first | exact HB.out | apply zA | apply zB | apply zD | refine zJ ?_ GE152.out | refine zJ ?_ GE153.out)⟩
                ·rw [if_neg c49] at H
                 have c49b0 : (t162 == 0) = false := z7 c49
                 have c49b1 : (t162 != 0) = true := bne_iff_ne.mpr c49
                 simp only [Option.some.injEq, Prod.mk.injEq] at H
                 obtain ⟨rfl, rfl, rfl, rfl, rfl, rfl⟩ := H
                 go_wp2_with (first | ((with_reducible refine gate_callee (f := 81) rfl ?_); refine goesL_ (some 90) rfl rfl Tryd.func81 (by kernel_rfl) rfl #[.string (a0.extract ((ji43) : Int).toNat ((wrap64 (a1 + t154)) : Int).toNat)] rfl (by (try simp only [z9, List.map_cons, List.map_nil]); first | done | (simp only [hji43]; rfl) | rfl | (simp only [z9a, z9b]; rfl)) ?_; (with_reducible refine (cotterref01_Number.calls kj23 (a0.extract ((ji43) : Int).toNat ((wrap64 (a1 + t154)) : Int).toNat) t159 t160 _ A47.out).mono ?_); rintro e w' ⟨rfl, ⟨nd, rfl⟩⟩; refine ⟨_, rfl, ?_⟩; (try (rw [drewN_self wc]; generalize hq_ : World.drewN wc _ = wc; have n0_ : Aside0 (wc.heap[gb152]? = some (.cells #[.int .i64 0, .int .i64 0, .int .i64 0, .int .i64 0] 79 (0, 0))) := ⟨by rw [← hq_]; exact (by (with_reducible repeat (first | refine zH ?_ _ | refine zI ?_ | refine zG ?_ _)); exact BK152.out)⟩; have n1_ : Aside0 (wc.heap[gb153]? = some (.cells #[.int .i64 (wrap64 (bt a0 a1)), .int .i64 x154001_23, .int .i64 x154002_23, .int .i64 0] 79 (0, 0))) := ⟨by rw [← hq_]; exact (by (with_reducible repeat (first | refine zH ?_ _ | refine zI ?_ | refine zG ?_ _)); exact BK153.out)⟩; have n2_ : Aside0 (Below w.heap.size w wc) := ⟨by rw [← hq_]; exact (by repeat (first | exact HB.out | apply zA | apply zB | apply zD | refine zJ ?_ GE152.out | refine zJ ?_ GE153.out))⟩; clear BK152 BK153 HB hq_; have BK152 := n0_; have BK153 := n1_; have HB := n2_; clear n0_ n1_ n2_; have hcq152_0 : wc.cell? ⟨gb152, 0, none⟩ = some (.int .i64 0) := (zC BK152.out 0).trans rfl; have hfq152_0 := zF BK152.out 0; have hcq152_1 : wc.cell? ⟨gb152, 1, none⟩ = some (.int .i64 0) := (zC BK152.out 1).trans rfl; have hfq152_1 := zF BK152.out 1; have hcq152_2 : wc.cell? ⟨gb152, 2, none⟩ = some (.int .i64 0) := (zC BK152.out 2).trans rfl; have hfq152_2 := zF BK152.out 2; have hcq152_3 : wc.cell? ⟨gb152, 3, none⟩ = some (.int .i64 0) := (zC BK152.out 3).trans rfl; have hfq152_3 := zF BK152.out 3; have hcq153_0 : wc.cell? ⟨gb153, 0, none⟩ = some (.int .i64 (wrap64 (bt a0 a1))) := (zC BK153.out 0).trans rfl; have hfq153_0 := zF BK153.out 0; have hcq153_1 : wc.cell? ⟨gb153, 1, none⟩ = some (.int .i64 x154001_23) := (zC BK153.out 1).trans rfl; have hfq153_1 := zF BK153.out 1; have hcq153_2 : wc.cell? ⟨gb153, 2, none⟩ = some (.int .i64 x154002_23) := (zC BK153.out 2).trans rfl; have hfq153_2 := zF BK153.out 2; have hcq153_3 : wc.cell? ⟨gb153, 3, none⟩ = some (.int .i64 0) := (zC BK153.out 3).trans rfl; have hfq153_3 := zF BK153.out 3)); have hnb55 := NB153_152.out; have hnc55 := NB152_153.out; have hcz56_0 : wc.cell? ⟨gb153, 0, none⟩ = some (.int .i64 (wrap64 (bt a0 a1))) := (zC BK153.out 0).trans rfl; have hcz56_1 : wc.cell? ⟨gb153, 1, none⟩ = some (.int .i64 x154001_23) := (zC BK153.out 1).trans rfl; have hcz56_2 : wc.cell? ⟨gb153, 2, none⟩ = some (.int .i64 x154002_23) := (zC BK153.out 2).trans rfl; have hcz56_3 : wc.cell? ⟨gb153, 3, none⟩ = some (.int .i64 0) := (zC BK153.out 3).trans rfl; have hfz56_0 := zF BK153.out 0; have hfz56_1 := zF BK153.out 1; have hfz56_2 := zF BK153.out 2; have hfz56_3 := zF BK153.out 3) | ((with_reducible refine gate_callee (f := 82) rfl ?_); refine goesL_ (some 96) rfl rfl Tryd.func82 (by kernel_rfl) rfl #[.agg #[.int .i64 (wrap64 (bt a0 a1)), .int .i64 x154001_23, .int .i64 x154002_23, .int .i64 t159]] rfl (by (try simp only [z9, List.map_cons, List.map_nil]); first | done | rfl | (simp only [z9a, z9b]; rfl)) ?_; (with_reducible refine (cotterref03_Encode.calls kj23 (wrap64 (bt a0 a1)) x154001_23 x154002_23 t159 t161 t162 _ A48.out).mono ?_); rintro e w57 ⟨rfl, hb⟩; refine ⟨_, rfl, ?_⟩; have n0_ := z4 (blk_below (g := gb152) (o := .cells #[.int .i64 0, .int .i64 0, .int .i64 0, .int .i64 0] 79 (0, 0)) (by (with_reducible repeat (first | refine zH ?_ _ | refine zI ?_ | refine zG ?_ _)); refine blk_far ?_ NB152_153.out _; (with_reducible repeat (first | refine zH ?_ _ | refine zI ?_ | refine zG ?_ _)); exact BK152.out) hb); have n1_ := z4 (blk_below (g := gb153) (o := .cells #[.int .i64 (wrap64 (bt a0 a1)), .int .i64 x154001_23, .int .i64 x154002_23, .int .i64 t159] 79 (0, 0)) (by (with_reducible repeat (first | refine zH ?_ _ | refine zI ?_ | refine zG ?_ _)); refine blk_put (cs := #[.int .i64 (wrap64 (bt a0 a1)), .int .i64 x154001_23, .int .i64 x154002_23, .int .i64 0]) ?_ 3 _ rfl; (with_reducible repeat (first | refine zH ?_ _ | refine zI ?_ | refine zG ?_ _)); exact BK153.out) hb); have n2_ := z4 (zK (by repeat (first | exact HB.out | apply zA | apply zB | apply zD | refine zJ ?_ GE152.out | refine zJ ?_ GE153.out)) hb); clear BK152; clear BK153; clear HB; have BK152 := n0_; have BK153 := n1_; have HB := n2_; clear n0_ n1_ n2_; (try clear hb); (try clear hb2); (try clear hk); (try clear hi); have hcz58_0 : w57.cell? ⟨gb152, 0, none⟩ = some (.int .i64 0) := (zC BK152.out 0).trans rfl; have hcz58_1 : w57.cell? ⟨gb152, 1, none⟩ = some (.int .i64 0) := (zC BK152.out 1).trans rfl; have hcz58_2 : w57.cell? ⟨gb152, 2, none⟩ = some (.int .i64 0) := (zC BK152.out 2).trans rfl; have hcz58_3 : w57.cell? ⟨gb152, 3, none⟩ = some (.int .i64 0) := (zC BK152.out 3).trans rfl; have hfz58_0 := zF BK152.out 0; have hfz58_1 := zF BK152.out 1; have hfz58_2 := zF BK152.out 2; have hfz58_3 := zF BK152.out 3))
                 refine bodyPost_ret (results_ctt rfl _ _ gb152 79 #[.int .i64 0, .int .i64 0, .int .i64 0, .int .i64 0] (0, 0) _ rfl (by (with_reducible repeat (first | refine zH ?_ _ | refine zI ?_ | refine zG ?_ _)); refine blk_put (cs := #[.int .i64 0, .int .i64 0, .int .i64 0, .int .i64 0]) ?_ 3 _ rfl; (with_reducible repeat (first | refine zH ?_ _ | refine zI ?_ | refine zG ?_ _)); refine blk_put (cs := #[.int .i64 0, .int .i64 0, .int .i64 0, .int .i64 0]) ?_ 2 _ rfl; (with_reducible repeat (first | refine zH ?_ _ | refine zI ?_ | refine zG ?_ _)); refine blk_put (cs := #[.int .i64 0, .int .i64 0, .int .i64 0, .int .i64 0]) ?_ 1 _ rfl; (with_reducible repeat (first | refine zH ?_ _ | refine zI ?_ | refine zG ?_ _)); refine blk_put (cs := #[.int .i64 0, .int .i64 0, .int .i64 0, .int .i64 0]) ?_ 0 _ rfl; (with_reducible repeat (first | refine zH ?_ _ | refine zI ?_ | refine zG ?_ _)); exact BK152.out) Tryd.underlying79 rfl (by kernel_rfl)) rfl ?_
                 exact ⟨by first | rfl | (simp [errW_none, errW_some] <;> rfl) | (simp only [← hji43]; first | rfl | (simp [errW_none, errW_some] <;> rfl)) | (simp [*, errW_none, errW_some] <;> rfl), by repeat (first | exact HB.out | apply zA | apply zB | apply zD | refine zJ ?_ GE152.out | refine zJ ?_ GE153.out)⟩
               ·rw [if_neg c46] at H
                exact absurd H (by simp)
              ·rw [if_neg c45] at H
               exact absurd H (by simp)
             ·rw [if_neg c44] at H
              exact absurd H (by simp)
            ·rw [if_neg c42] at H
             have c42b0 : decide (0 < t158) = false := decide_eq_false c42
             clear c42
             replace H := z8 H
             obtain ⟨⟨t163, t164⟩, A590, H⟩ := H
             replace H : (if t164 = 0 then (some ((wrap64 (bt a0 a1)), x154001_23, x154002_23, 0, wrap64 (a1 + t154), 0)) else (some (0, 0, 0, 0, 0, 9))) = some (r1, r2, r3, r4, r5, r6) := H
             have A59 := z4 A590
             clear A590
             by_cases c60 : t164 = 0
             ·rw [if_pos c60] at H
              have c60b0 : (t164 == 0) = true := z5 c60
              have c60b1 : (t164 != 0) = false := z6 c60
              clear c60
              simp only [Option.some.injEq, Prod.mk.injEq] at H
              obtain ⟨rfl, rfl, rfl, rfl, rfl, rfl⟩ := H
              have hnb61 := NB153_152.out
              have hnc61 := NB152_153.out
              have hcz62_0 : wc.cell? ⟨gb153, 0, none⟩ = some (.int .i64 (wrap64 (bt a0 a1))) := (zC BK153.out 0).trans rfl
              have hcz62_1 : wc.cell? ⟨gb153, 1, none⟩ = some (.int .i64 x154001_23) := (zC BK153.out 1).trans rfl
              have hcz62_2 : wc.cell? ⟨gb153, 2, none⟩ = some (.int .i64 x154002_23) := (zC BK153.out 2).trans rfl
              have hcz62_3 : wc.cell? ⟨gb153, 3, none⟩ = some (.int .i64 0) := (zC BK153.out 3).trans rfl
              have hfz62_0 := zF BK153.out 0
              have hfz62_1 := zF BK153.out 1
              have hfz62_2 := zF BK153.out 2
              have hfz62_3 := zF BK153.out 3
              go_wp2_with (first | ((with_reducible refine gate_callee (f := 82) rfl ?_); refine goesL_ (some 96) rfl rfl Tryd.func82 (by kernel_rfl) rfl #[.agg #[.int .i64 (wrap64 (bt a0 a1)), .int .i64 x154001_23, .int .i64 x154002_23, .int .i64 0]] rfl (by (try simp only [z9, List.map_cons, List.map_nil]); first | done | rfl | (simp only [z9a, z9b]; rfl)) ?_; (with_reducible refine (cotterref03_Encode.calls kj23 (wrap64 (bt a0 a1)) x154001_23 x154002_23 0 t163 t164 _ A59.out).mono ?_); rintro e w63 ⟨rfl, hb⟩; refine ⟨_, rfl, ?_⟩; have n0_ := z4 (blk_below (g := gb152) (o := .cells #[.int .i64 0, .int .i64 0, .int .i64 0, .int .i64 0] 79 (0, 0)) (by (with_reducible repeat (first | refine zH ?_ _ | refine zI ?_ | refine zG ?_ _)); exact BK152.out) hb); have n1_ := z4 (blk_below (g := gb153) (o := .cells #[.int .i64 (wrap64 (bt a0 a1)), .int .i64 x154001_23, .int .i64 x154002_23, .int .i64 0] 79 (0, 0)) (by (with_reducible repeat (first | refine zH ?_ _ | refine zI ?_ | refine zG ?_ _)); exact BK153.out) hb); have n2_ := z4 (zK (by repeat (first | exact HB.out | apply zA | apply zB | apply zD | refine zJ ?_ GE152.out | refine zJ ?_ GE153.out)) hb); clear BK152; clear BK153; clear HB; have BK152 := n0_; have BK153 := n1_; have HB := n2_; clear n0_ n1_ n2_; (try clear hb); (try clear hb2); (try clear hk); (try clear hi); have hcz64_0 : w63.cell? ⟨gb153, 0, none⟩ = some (.int .i64 (wrap64 (bt a0 a1))) := (zC BK153.out 0).trans rfl; have hcz64_1 : w63.cell? ⟨gb153, 1, none⟩ = some (.int .i64 x154001_23) := (zC BK153.out 1).trans rfl; have hcz64_2 : w63.cell? ⟨gb153, 2, none⟩ = some (.int .i64 x154002_23) := (zC BK153.out 2).trans rfl; have hcz64_3 : w63.cell? ⟨gb153, 3, none⟩ = some (.int .i64 0) := (zC BK153.out 3).trans rfl; have hfz64_0 := zF BK153.out 0; have hfz64_1 := zF BK153.out 1; have hfz64_2 := zF BK153.out 2; have hfz64_3 := zF BK153.out 3; have hcz65_0 : w63.cell? ⟨gb152, 0, none⟩ = some (.int .i64 0) := (zC BK152.out 0).trans rfl; have hcz65_1 : w63.cell? ⟨gb152, 1, none⟩ = some (.int .i64 0) := (zC BK152.out 1).trans rfl; have hcz65_2 : w63.cell? ⟨gb152, 2, none⟩ = some (.int .i64 0) := (zC BK152.out 2).trans rfl; have hcz65_3 : w63.cell? ⟨gb152, 3, none⟩ = some (.int .i64 0) := (zC BK152.out 3).trans rfl; have hfz65_0 := zF BK152.out 0; have hfz65_1 := zF BK152.out 1; have hfz65_2 := zF BK152.out 2; have hfz65_3 := zF BK152.out 3))
              refine bodyPost_ret (results_ctt rfl _ _ gb152 79 #[.int .i64 (wrap64 (bt a0 a1)), .int .i64 x154001_23, .int .i64 x154002_23, .int .i64 0] (0, 0) _ rfl (by (with_reducible repeat (first | refine zH ?_ _ | refine zI ?_ | refine zG ?_ _)); refine blk_put (cs := #[.int .i64 (wrap64 (bt a0 a1)), .int .i64 x154001_23, .int .i64 x154002_23, .int .i64 0]) ?_ 3 _ rfl; (with_reducible repeat (first | refine zH ?_ _ | refine zI ?_ | refine zG ?_ _)); refine blk_put (cs := #[.int .i64 (wrap64 (bt a0 a1)), .int .i64 x154001_23, .int .i64 0, .int .i64 0]) ?_ 2 _ rfl; (with_reducible repeat (first | refine zH ?_ _ | refine zI ?_ | refine zG ?_ _)); refine blk_put (cs := #[.int .i64 (wrap64 (bt a0 a1)), .int .i64 0, .int .i64 0, .int .i64 0]) ?_ 1 _ rfl; (with_reducible repeat (first | refine zH ?_ _ | refine zI ?_ | refine zG ?_ _)); refine blk_put (cs := #[.int .i64 0, .int .i64 0, .int .i64 0, .int .i64 0]) ?_ 0 _ rfl; (with_reducible repeat (first | refine zH ?_ _ | refine zI ?_ | refine zG ?_ _)); exact BK152.out) Tryd.underlying79 rfl (by kernel_rfl)) rfl ?_
              exact ⟨by first | rfl | (simp [errW_none, errW_some] <;> rfl) | (simp [*, errW_none, errW_some] <;> rfl), by repeat (first | exact HB.out | apply zA | apply zB | apply zD | refine zJ ?_ GE152.out | refine zJ ?_ GE153.out)⟩
             ·rw [if_neg c60] at H
              have c60b0 : (t164 == 0) = false := z7 c60
              have c60b1 : (t164 != 0) = true := bne_iff_ne.mpr c60
              simp only [Option.some.injEq, Prod.mk.injEq] at H
              obtain ⟨rfl, rfl, rfl, rfl, rfl, rfl⟩ := H
              have hnb66 := NB153_152.out
              have hnc66 := NB152_153.out
              have hcz67_0 : wc.cell? ⟨gb153, 0, none⟩ = some (.int .i64 (wrap64 (bt a0 a1))) := (zC BK153.out 0).trans rfl
              have hcz67_1 : wc.cell? ⟨gb153, 1, none⟩ = some (.int .i64 x154001_23) := (zC BK153.out 1).trans rfl
              have hcz67_2 : wc.cell? ⟨gb153, 2, none⟩ = some (.int .i64 x154002_23) := (zC BK153.out 2).trans rfl
              have hcz67_3 : wc.cell? ⟨gb153, 3, none⟩ = some (.int .i64 0) := (zC BK153.out 3).trans rfl
              have hfz67_0 := zF BK153.out 0
              have hfz67_1 := zF BK153.out 1
              have hfz67_2 := zF BK153.out 2
              have hfz67_3 := zF BK153.out 3
              go_wp2_with (first | ((with_reducible refine gate_callee (f := 82) rfl ?_); refine goesL_ (some 96) rfl rfl Tryd.func82 (by kernel_rfl) rfl #[.agg #[.int .i64 (wrap64 (bt a0 a1)), .int .i64 x154001_23, .int .i64 x154002_23, .int .i64 0]] rfl (by (try simp only [z9, List.map_cons, List.map_nil]); first | done | rfl | (simp only [z9a, z9b]; rfl)) ?_; (with_reducible refine (cotterref03_Encode.calls kj23 (wrap64 (bt a0 a1)) x154001_23 x154002_23 0 t163 t164 _ A59.out).mono ?_); rintro e w68 ⟨rfl, hb⟩; refine ⟨_, rfl, ?_⟩; have n0_ := z4 (blk_below (g := gb152) (o := .cells #[.int .i64 0, .int .i64 0, .int .i64 0, .int .i64 0] 79 (0, 0)) (by (with_reducible repeat (first | refine zH ?_ _ | refine zI ?_ | refine zG ?_ _)); exact BK152.out) hb); have n1_ := z4 (blk_below (g := gb153) (o := .cells #[.int .i64 (wrap64 (bt a0 a1)), .int .i64 x154001_23, .int .i64 x154002_23, .int .i64 0] 79 (0, 0)) (by (with_reducible repeat (first | refine zH ?_ _ | refine zI ?_ | refine zG ?_ _)); exact BK153.out) hb); have n2_ := z4 (zK (by repeat (first | exact HB.out | apply zA | apply zB | apply zD | refine zJ ?_ GE152.out | refine zJ ?_ GE153.out)) hb); clear BK152; clear BK153; clear HB; have BK152 := n0_; have BK153 := n1_; have HB := n2_; clear n0_ n1_ n2_; (try clear hb); (try clear hb2); (try clear hk); (try clear hi); have hcz69_0 : w68.cell? ⟨gb152, 0, none⟩ = some (.int .i64 0) := (zC BK152.out 0).trans rfl; have hcz69_1 : w68.cell? ⟨gb152, 1, none⟩ = some (.int .i64 0) := (zC BK152.out 1).trans rfl; have hcz69_2 : w68.cell? ⟨gb152, 2, none⟩ = some (.int .i64 0) := (zC BK152.out 2).trans rfl; have hcz69_3 : w68.cell? ⟨gb152, 3, none⟩ = some (.int .i64 0) := (zC BK152.out 3).trans rfl; have hfz69_0 := zF BK152.out 0; have hfz69_1 := zF BK152.out 1; have hfz69_2 := zF BK152.out 2; have hfz69_3 := zF BK152.out 3))
              refine bodyPost_ret (results_ctt rfl _ _ gb152 79 #[.int .i64 0, .int .i64 0, .int .i64 0, .int .i64 0] (0, 0) _ rfl (by (with_reducible repeat (first | refine zH ?_ _ | refine zI ?_ | refine zG ?_ _)); refine blk_put (cs := #[.int .i64 0, .int .i64 0, .int .i64 0, .int .i64 0]) ?_ 3 _ rfl; (with_reducible repeat (first | refine zH ?_ _ | refine zI ?_ | refine zG ?_ _)); refine blk_put (cs := #[.int .i64 0, .int .i64 0, .int .i64 0, .int .i64 0]) ?_ 2 _ rfl; (with_reducible repeat (first | refine zH ?_ _ | refine zI ?_ | refine zG ?_ _)); refine blk_put (cs := #[.int .i64 0, .int .i64 0, .int .i64 0, .int .i64 0]) ?_ 1 _ rfl; (with_reducible repeat (first | refine zH ?_ _ | refine zI ?_ | refine zG ?_ _)); refine blk_put (cs := #[.int .i64 0, .int .i64 0, .int .i64 0, .int .i64 0]) ?_ 0 _ rfl; (with_reducible repeat (first | refine zH ?_ _ | refine zI ?_ | refine zG ?_ _)); exact BK152.out) Tryd.underlying79 rfl (by kernel_rfl)) rfl ?_
              exact ⟨by first | rfl | (simp [errW_none, errW_some] <;> rfl) | (simp [*, errW_none, errW_some] <;> rfl), by repeat (first | exact HB.out | apply zA | apply zB | apply zD | refine zJ ?_ GE152.out | refine zJ ?_ GE153.out)⟩
      ·rw [if_neg c11] at H
       exact absurd H (by simp)
     ·rw [if_neg c10] at H
      exact absurd H (by simp)
end Go.Proofs.YtimhcpmfhebbhaaDoor.M
namespace Go.Proofs.YtimhcpmfhebbhaaDoor.M
open Go.RowKit Go.Proofs.YtimhcpmfhebbhaaDoorW.PrintWords Go.Proofs.YtimhcpmfhebbhaaDoorW.PrintLast
set_option linter.unusedVariables false
set_option linter.unusedSimpArgs false
def cotterref03_All.l0 : Nat → ByteArray → List (S79) → Int → Option ((List (S79)) × Int)
 | 0, _, _, _ => none
 | k + 1, x0, x4, x5 => if x5 < (x0.size : Int) then ((cotterref03_Decode.f k x0 x5).bind fun bt165 => (if bt165.2.2.2.2.2 = 0 then (if x4.length < 4398046511104 then (cotterref03_All.l0 k x0 (x4 ++ [(⟨bt165.1, bt165.2.1, bt165.2.2.1, bt165.2.2.2.1⟩ : S79)]) bt165.2.2.2.2.1) else (none)) else (some (([] : List (S79)), 9)))) else (some (x4, 0))
def cotterref03_All.f (k : Nat) (a0 : ByteArray) : Option ((List (S79)) × Int) := cotterref03_All.l0 k a0 ([] : List (S79)) 0
set_option maxHeartbeats 8000000 in
set_option maxRecDepth 100000 in
theorem cotterref03_All.calls (k : Nat) (a0 : ByteArray) (r1 : List (S79)) (r2 : Int) (w : World) (h : cotterref03_All.f k a0 = some (r1, r2)) :
 Calls Tryd.prog 38 #[.string a0] w fun e w' => ∃ v0_ : Value, e = .returned (.tuple #[v0_, .int .i64 r2]) ∧ Kd.R k79 79 w' w.heap.size (fun _ => True) v0_ r1 ∧ Below w.heap.size w w' := by
 have hu79 := Tryd.underlying79
 have HB := z4 (Below.refl w.heap.size w)
 have H : (cotterref03_All.l0 k a0 ([] : List (S79)) 0) = some (r1, r2) := h
 clear h
 have H' := z4 H
 clear H
 go_enter Tryd.func38, Tryd.ntmps38
 go_wp2
 go_loopg [4, 5] k (fun kq v4 v5 w' => ∃ (x4_1 : List (S79)) (x5_1 : Int), v5 = .int .i64 x5_1 ∧ Aside0 (cotterref03_All.l0 kq a0 x4_1 x5_1 = some (r1, r2)) ∧ Aside0 (kq ≤ k) ∧ Aside0 (Kd.R k79 79 w' w.heap.size (fun _ => True) v4 x4_1) ∧ Aside0 (Below w.heap.size w w'))
 case atStart => exact ⟨(([] : List (S79))), (0), (by first | rfl | (simp; done) | (simp [*]; done)), H', ⟨Nat.le_refl _⟩, ⟨by first | exact Kd.R_nil _ _ _ _ _ | exact Kd.N_nil _ _ _ _ _ | exact Kd.V_nil _ _ _ _ _ | exact Kd.Q_nil _ _ _ _ _ | exact Kd.S_nil _ _ _ _ _⟩, ⟨by repeat (first | exact HB.out | apply zA | apply zB | apply zD)⟩⟩
 case round =>
  clear H'
  obtain ⟨x4_1, x5_1, rfl, HA, HK1, HO_4, HB⟩ := hrel
  cases gk with
  | zero => exact absurd HA.out (by simp [cotterref03_All.l0])
  | succ k1 =>
   have H := HA.out
   clear HA
   simp only [cotterref03_All.l0] at H
   by_cases c2 : x5_1 < (a0.size : Int)
   ·rw [if_pos c2] at H
    have c2b0 : decide (x5_1 < (a0.size : Int)) = true := decide_eq_true c2
    clear c2
    replace H := z8 H
    obtain ⟨⟨t165, t166, t167, t168, t169, t170⟩, A30, H⟩ := H
    replace H : (if t170 = 0 then (if x4_1.length < 4398046511104 then (cotterref03_All.l0 k1 a0 (x4_1 ++ [(⟨t165, t166, t167, t168⟩ : S79)]) t169) else (none)) else (some (([] : List (S79)), 9))) = some (r1, r2) := H
    have A3 := z4 A30
    clear A30
    by_cases c4 : t170 = 0
    ·rw [if_pos c4] at H
     have c4b0 : (t170 == 0) = true := z5 c4
     have c4b1 : (t170 != 0) = false := z6 c4
     clear c4
     by_cases c5 : x4_1.length < 4398046511104
     ·rw [if_pos c5] at H
      have LMc5 := z4 c5
      clear c5
      obtain ⟨y172, hy172⟩ : ∃ y_ : List (S79), y_ = (x4_1 ++ [(⟨t165, t166, t167, t168⟩ : S79)]) := ⟨_, rfl⟩
      replace H : (cotterref03_All.l0 k1 a0 y172 t169) = some (r1, r2) := by first | (rw [hy172]; with_reducible exact H) | (have H2_ := (Option.bind_some _ _).symm.trans H; rw [hy172]; with_reducible exact H2_) | (have H2_ := (Option.bind_some _ _).symm.trans H; with_reducible exact H2_) | with_reducible exact H | (rw [hy172]; exact H) | exact H
      have Ny172 := z4 hy172
      clear hy172
      have H' := z4 H
      clear H
      go_wp2_with (first | ((with_reducible refine gate_callee (f := 65) rfl ?_); refine goesL_ (some 16) rfl rfl Tryd.func65 (by kernel_rfl) rfl #[.string a0, .int .i64 x5_1] rfl (by (try simp only [z9, List.map_cons, List.map_nil]); first | done | rfl | (simp only [z9a, z9b]; rfl)) ?_; (with_reducible refine (cotterref03_Decode.calls k1 a0 x5_1 t165 t166 t167 t168 t169 t170 _ A3.out).mono ?_); rintro e w6 ⟨rfl, hb⟩; refine ⟨_, rfl, ?_⟩; have n0_ := z4 (zV (by (with_reducible repeat (first | apply zM | apply zN | apply zO)); exact HO_4.out) hb); have n1_ := z4 (zK (by repeat (first | exact HB.out | apply zA | apply zB | apply zD)) hb); clear HO_4; clear HB; have HO_4 := n0_; have HB := n1_; clear n0_ n1_; (try clear hb); (try clear hb2); (try clear hk); (try clear hi)) | ((with_reducible refine gate_dst (N := 6) rfl ?_); refine box_event ?hg (N := 6) ?hd (cs := #[.int .i64 0, .int .i64 0, .int .i64 0, .int .i64 0]) (t := 79) ?hr ?_; (case hd => rfl); (case hg => rfl); (case hr => first | (go_simp; done) | (go_simp; rfl)); intro gb171 hg w7 hbox hb; have n0_ := z4 (zV (Kd.R_elderB (by (with_reducible repeat (first | apply zM | apply zN | apply zO)); exact HO_4.out) gb171 (Nat.le_of_eq hg.symm)) hb); have n1_ := z4 (zK (by repeat (first | exact HB.out | apply zA | apply zB | apply zD)) hb); have n2_ := z4 (hbox); have n3_ := z4 ((by rw [hg]; exact (zL (by repeat (first | exact HB.out | apply zA | apply zB | apply zD))) : w.heap.size ≤ gb171)); have n4_ := z4 ((by rw [hg]; exact (zL (by repeat (first | exact HB.out | apply zA | apply zB | apply zD))) : w.heap.size ≤ gb171)); clear HO_4; clear HB; have HO_4 := n0_; have HB := n1_; have BK171 := n2_; have GW171 := n3_; have GE171 := n4_; clear n0_ n1_ n2_ n3_ n4_; clear hb hbox hg; have hcz8_0 : w7.cell? ⟨gb171, 0, none⟩ = some (.int .i64 0) := (zC BK171.out 0).trans rfl; have hcz8_1 : w7.cell? ⟨gb171, 1, none⟩ = some (.int .i64 0) := (zC BK171.out 1).trans rfl; have hcz8_2 : w7.cell? ⟨gb171, 2, none⟩ = some (.int .i64 0) := (zC BK171.out 2).trans rfl; have hcz8_3 : w7.cell? ⟨gb171, 3, none⟩ = some (.int .i64 0) := (zC BK171.out 3).trans rfl; have hfz8_0 := zF BK171.out 0; have hfz8_1 := zF BK171.out 1; have hfz8_2 := zF BK171.out 2; have hfz8_3 := zF BK171.out 3) | ((with_reducible refine gate_builtin (b := .append) (xs := #[.tmp 22, .tmp 24]) rfl ?_); at_builtin; refine Kd.R_append k79 (w0 := w) w.heap.size rfl (.tmp 22) (.tmp 24) 91 79 (.agg #[(.int .i64 0), (.int .i64 0), (.int .i64 0), (.int .i64 0)]) 32 rfl Tryd.underlying91 info79 rfl (by decide) (by omega) u4 x4_1 (⟨t165, t166, t167, t168⟩ : S79) [.int .i64 t165, .int .i64 t166, .int .i64 t167, .int .i64 t168] (fun k_ => k_ ≠ gb171) (fun _ => False) rfl (by first | (go_simp; done) | (go_simp; rfl)) ?aP (fun _ hk => hk.elim) ?aF ?aO ?aB ?aS ?aL ?_; (case aP => exact k79_mkM _ _ _ (⟨t165, t166, t167, t168⟩ : S79)); (case aB => exact (by repeat (first | exact HB.out | apply zA | apply zB | apply zD | refine zJ ?_ GE171.out))); (case aF => exact (fun k_ hk => Kd.freshB (g := gb171) (o := .cells #[.int .i64 t165, .int .i64 t166, .int .i64 t167, .int .i64 t168] 79 (0, 0)) (by (with_reducible repeat (first | refine zH ?_ _ | refine zI ?_ | refine zG ?_ _)); refine blk_put (cs := #[.int .i64 t165, .int .i64 t166, .int .i64 t167, .int .i64 0]) ?_ 3 _ rfl; (with_reducible repeat (first | refine zH ?_ _ | refine zI ?_ | refine zG ?_ _)); refine blk_put (cs := #[.int .i64 t165, .int .i64 t166, .int .i64 0, .int .i64 0]) ?_ 2 _ rfl; (with_reducible repeat (first | refine zH ?_ _ | refine zI ?_ | refine zG ?_ _)); refine blk_put (cs := #[.int .i64 t165, .int .i64 0, .int .i64 0, .int .i64 0]) ?_ 1 _ rfl; (with_reducible repeat (first | refine zH ?_ _ | refine zI ?_ | refine zG ?_ _)); refine blk_put (cs := #[.int .i64 0, .int .i64 0, .int .i64 0, .int .i64 0]) ?_ 0 _ rfl; (with_reducible repeat (first | refine zH ?_ _ | refine zI ?_ | refine zG ?_ _)); exact BK171.out) k_ hk)); (case aO => exact (by (with_reducible repeat (first | apply zM | apply zN | apply zO)); exact Kd.R_mono (Kd.R_far (p := ⟨gb171, 3, none⟩) (Kd.R_far (p := ⟨gb171, 2, none⟩) (Kd.R_far (p := ⟨gb171, 1, none⟩) (Kd.R_far (p := ⟨gb171, 0, none⟩) (Kd.R_mono HO_4.out (fun k_ hk => (⟨hk, hk.2⟩ : _ ∧ k_ ≠ gb171))) (fun _ hk => hk.2) (.int .i64 t165)) (fun _ hk => hk.2) (.int .i64 t166)) (fun _ hk => hk.2) (.int .i64 t167)) (fun _ hk => hk.2) (.int .i64 t168)) (fun _ hk => hk.1.2))); (case aS => exact (zL (by repeat (first | exact HB.out | apply zA | apply zB | apply zD | refine zJ ?_ GE171.out)))); (case aL => have := LMc5.out; omega); intro v173 w9 ho hb hg hat; rw [← Ny172.out] at ho; have n0_ := z4 (blk_grown (g := gb171) (o := .cells #[.int .i64 t165, .int .i64 t166, .int .i64 t167, .int .i64 t168] 79 (0, 0)) (by (with_reducible repeat (first | refine zH ?_ _ | refine zI ?_ | refine zG ?_ _)); refine blk_put (cs := #[.int .i64 t165, .int .i64 t166, .int .i64 t167, .int .i64 0]) ?_ 3 _ rfl; (with_reducible repeat (first | refine zH ?_ _ | refine zI ?_ | refine zG ?_ _)); refine blk_put (cs := #[.int .i64 t165, .int .i64 t166, .int .i64 0, .int .i64 0]) ?_ 2 _ rfl; (with_reducible repeat (first | refine zH ?_ _ | refine zI ?_ | refine zG ?_ _)); refine blk_put (cs := #[.int .i64 t165, .int .i64 0, .int .i64 0, .int .i64 0]) ?_ 1 _ rfl; (with_reducible repeat (first | refine zH ?_ _ | refine zI ?_ | refine zG ?_ _)); refine blk_put (cs := #[.int .i64 0, .int .i64 0, .int .i64 0, .int .i64 0]) ?_ 0 _ rfl; (with_reducible repeat (first | refine zH ?_ _ | refine zI ?_ | refine zG ?_ _)); exact BK171.out) hg (Kd.R_away HO_4.out (fun _ hk => hk.2))); have n1_ := z4 (hb); have n2_ := z4 (ho); clear BK171; clear HB; clear HO_4; have BK171 := n0_; have HB := n1_; have HO174 := n2_; clear n0_ n1_ n2_; clear ho hb hg hat))
      go_roundg k1
      case measure => have := HK1.out; omega
      case rel => exact ⟨(y172), (t169), (by first | rfl | (simp; done) | (simp [*]; done)), H', ⟨by have := HK1.out; omega⟩, ⟨by (with_reducible repeat (first | apply zM | apply zN | apply zO)); exact Kd.R_mono HO174.out (fun _ hk => trivial)⟩, ⟨by repeat (first | exact HB.out | apply zA | apply zB | apply zD | refine zJ ?_ GE171.out)⟩⟩
     ·rw [if_neg c5] at H
      exact absurd H (by simp)
    ·rw [if_neg c4] at H
     have c4b0 : (t170 == 0) = false := z7 c4
     have c4b1 : (t170 != 0) = true := bne_iff_ne.mpr c4
     simp only [Option.some.injEq, Prod.mk.injEq] at H
     obtain ⟨rfl, rfl⟩ := H
     go_wp2_with (first | ((with_reducible refine gate_callee (f := 65) rfl ?_); refine goesL_ (some 16) rfl rfl Tryd.func65 (by kernel_rfl) rfl #[.string a0, .int .i64 x5_1] rfl (by (try simp only [z9, List.map_cons, List.map_nil]); first | done | rfl | (simp only [z9a, z9b]; rfl)) ?_; (with_reducible refine (cotterref03_Decode.calls k1 a0 x5_1 t165 t166 t167 t168 t169 t170 _ A3.out).mono ?_); rintro e w10 ⟨rfl, hb⟩; refine ⟨_, rfl, ?_⟩; have n0_ := z4 (zV (by (with_reducible repeat (first | apply zM | apply zN | apply zO)); exact HO_4.out) hb); have n1_ := z4 (zK (by repeat (first | exact HB.out | apply zA | apply zB | apply zD)) hb); clear HO_4; clear HB; have HO_4 := n0_; have HB := n1_; clear n0_ n1_; (try clear hb); (try clear hb2); (try clear hk); (try clear hi)) | ((with_reducible refine gate_dst (N := 6) rfl ?_); refine box_event ?hg (N := 6) ?hd (cs := #[.int .i64 0, .int .i64 0, .int .i64 0, .int .i64 0]) (t := 79) ?hr ?_; (case hd => rfl); (case hg => rfl); (case hr => first | (go_simp; done) | (go_simp; rfl)); intro gb171 hg w11 hbox hb; have n0_ := z4 (zV (Kd.R_elderB (by (with_reducible repeat (first | apply zM | apply zN | apply zO)); exact HO_4.out) gb171 (Nat.le_of_eq hg.symm)) hb); have n1_ := z4 (zK (by repeat (first | exact HB.out | apply zA | apply zB | apply zD)) hb); have n2_ := z4 (hbox); have n3_ := z4 ((by rw [hg]; exact (zL (by repeat (first | exact HB.out | apply zA | apply zB | apply zD))) : w.heap.size ≤ gb171)); have n4_ := z4 ((by rw [hg]; exact (zL (by repeat (first | exact HB.out | apply zA | apply zB | apply zD))) : w.heap.size ≤ gb171)); clear HO_4; clear HB; have HO_4 := n0_; have HB := n1_; have BK171 := n2_; have GW171 := n3_; have GE171 := n4_; clear n0_ n1_ n2_ n3_ n4_; clear hb hbox hg; have hcz12_0 : w11.cell? ⟨gb171, 0, none⟩ = some (.int .i64 0) := (zC BK171.out 0).trans rfl; have hcz12_1 : w11.cell? ⟨gb171, 1, none⟩ = some (.int .i64 0) := (zC BK171.out 1).trans rfl; have hcz12_2 : w11.cell? ⟨gb171, 2, none⟩ = some (.int .i64 0) := (zC BK171.out 2).trans rfl; have hcz12_3 : w11.cell? ⟨gb171, 3, none⟩ = some (.int .i64 0) := (zC BK171.out 3).trans rfl; have hfz12_0 := zF BK171.out 0; have hfz12_1 := zF BK171.out 1; have hfz12_2 := zF BK171.out 2; have hfz12_3 := zF BK171.out 3))
     go_ret2
     exact ⟨_, by first | rfl | (simp [errW_none, errW_some] <;> rfl) | (simp [*, errW_none, errW_some] <;> rfl), by first | exact Kd.R_nil _ _ _ _ _ | exact Kd.N_nil _ _ _ _ _ | exact Kd.V_nil _ _ _ _ _ | exact Kd.Q_nil _ _ _ _ _ | exact Kd.S_nil _ _ _ _ _, by repeat (first | exact HB.out | apply zA | apply zB | apply zD | refine zJ ?_ GE171.out)⟩
   ·rw [if_neg c2] at H
    have c2b0 : decide (x5_1 < (a0.size : Int)) = false := decide_eq_false c2
    clear c2
    simp only [Option.some.injEq, Prod.mk.injEq] at H
    obtain ⟨rfl, rfl⟩ := H
    go_wp2
    go_ret2
    exact ⟨_, by first | rfl | (simp [errW_none, errW_some] <;> rfl) | (simp [*, errW_none, errW_some] <;> rfl), by (with_reducible repeat (first | apply zM | apply zN | apply zO)); exact HO_4.out, by repeat (first | exact HB.out | apply zA | apply zB | apply zD)⟩
def cotterref03_Jumps.f (a0 : Int) : Option (Bool) := if a0 = 20 then (some true) else (if a0 = 21 then (some true) else (if a0 = 22 then (some true) else (if a0 = 23 then (some true) else (if a0 = 25 then (some true) else (if a0 = 26 then (some true) else (some (a0 == 27)))))))
set_option maxHeartbeats 8000000 in
set_option maxRecDepth 100000 in
theorem cotterref03_Jumps.calls (a0 : Int) (r : Bool) (w : World) (h : cotterref03_Jumps.f a0 = some r) :
 Calls Tryd.prog 45 #[.int .i64 a0] w fun e w' => e = .returned (.bool r) ∧ Drawn0 w w' := by
 have H : (if a0 = 20 then (some true) else (if a0 = 21 then (some true) else (if a0 = 22 then (some true) else (if a0 = 23 then (some true) else (if a0 = 25 then (some true) else (if a0 = 26 then (some true) else (some (a0 == 27)))))))) = some r := h
 clear h
 by_cases c2 : a0 = 20
 ·rw [if_pos c2] at H
  have c2b0 : (a0 == 20) = true := z5 c2
  have c2b1 : (a0 != 20) = false := z6 c2
  clear c2
  obtain rfl := Option.some.inj H
  go_enter Tryd.func45, Tryd.ntmps45
  go_wp2
  go_ret
  exact ⟨by first | rfl | (simp; done) | (simp [*]; done), by repeat (first | exact Drawn0.refl _ | apply Drawn0.step)⟩
 ·rw [if_neg c2] at H
  have c2b0 : (a0 == 20) = false := z7 c2
  have c2b1 : (a0 != 20) = true := bne_iff_ne.mpr c2
  by_cases c3 : a0 = 21
  ·rw [if_pos c3] at H
   have c3b0 : (a0 == 21) = true := z5 c3
   have c3b1 : (a0 != 21) = false := z6 c3
   clear c3
   obtain rfl := Option.some.inj H
   go_enter Tryd.func45, Tryd.ntmps45
   go_wp2
   go_ret
   exact ⟨by first | rfl | (simp; done) | (simp [*]; done), by repeat (first | exact Drawn0.refl _ | apply Drawn0.step)⟩
  ·rw [if_neg c3] at H
   have c3b0 : (a0 == 21) = false := z7 c3
   have c3b1 : (a0 != 21) = true := bne_iff_ne.mpr c3
   by_cases c4 : a0 = 22
   ·rw [if_pos c4] at H
    have c4b0 : (a0 == 22) = true := z5 c4
    have c4b1 : (a0 != 22) = false := z6 c4
    clear c4
    obtain rfl := Option.some.inj H
    go_enter Tryd.func45, Tryd.ntmps45
    go_wp2
    go_ret
    exact ⟨by first | rfl | (simp; done) | (simp [*]; done), by repeat (first | exact Drawn0.refl _ | apply Drawn0.step)⟩
   ·rw [if_neg c4] at H
    have c4b0 : (a0 == 22) = false := z7 c4
    have c4b1 : (a0 != 22) = true := bne_iff_ne.mpr c4
    by_cases c5 : a0 = 23
    ·rw [if_pos c5] at H
     have c5b0 : (a0 == 23) = true := z5 c5
     have c5b1 : (a0 != 23) = false := z6 c5
     clear c5
     obtain rfl := Option.some.inj H
     go_enter Tryd.func45, Tryd.ntmps45
     go_wp2
     go_ret
     exact ⟨by first | rfl | (simp; done) | (simp [*]; done), by repeat (first | exact Drawn0.refl _ | apply Drawn0.step)⟩
    ·rw [if_neg c5] at H
     have c5b0 : (a0 == 23) = false := z7 c5
     have c5b1 : (a0 != 23) = true := bne_iff_ne.mpr c5
     by_cases c6 : a0 = 25
     ·rw [if_pos c6] at H
      have c6b0 : (a0 == 25) = true := z5 c6
      have c6b1 : (a0 != 25) = false := z6 c6
      clear c6
      obtain rfl := Option.some.inj H
      go_enter Tryd.func45, Tryd.ntmps45
      go_wp2
      go_ret
      exact ⟨by first | rfl | (simp; done) | (simp [*]; done), by repeat (first | exact Drawn0.refl _ | apply Drawn0.step)⟩
     ·rw [if_neg c6] at H
      have c6b0 : (a0 == 25) = false := z7 c6
      have c6b1 : (a0 != 25) = true := bne_iff_ne.mpr c6
      by_cases c7 : a0 = 26
      ·rw [if_pos c7] at H
       have c7b0 : (a0 == 26) = true := z5 c7
       have c7b1 : (a0 != 26) = false := z6 c7
       clear c7
       obtain rfl := Option.some.inj H
       go_enter Tryd.func45, Tryd.ntmps45
       go_wp2
       go_ret
       exact ⟨by first | rfl | (simp; done) | (simp [*]; done), by repeat (first | exact Drawn0.refl _ | apply Drawn0.step)⟩
      ·rw [if_neg c7] at H
       have c7b0 : (a0 == 26) = false := z7 c7
       have c7b1 : (a0 != 26) = true := bne_iff_ne.mpr c7
       obtain rfl := Option.some.inj H
       go_enter Tryd.func45, Tryd.ntmps45
       go_wp2
       go_ret
       exact ⟨by first | rfl | (simp; done) | (simp [*]; done), by repeat (first | exact Drawn0.refl _ | apply Drawn0.step)⟩
def objf_isName.f (a0 : ByteArray) : Option (Bool) := if (a0.size : Int) > 0 then (some (decide ((a0.size : Int) ≤ 28))) else (some false)
set_option maxHeartbeats 8000000 in
set_option maxRecDepth 100000 in
theorem objf_isName.calls (a0 : ByteArray) (r : Bool) (w : World) (h : objf_isName.f a0 = some r) :
 Calls Tryd.prog 74 #[.string a0] w fun e w' => e = .returned (.bool r) ∧ Drawn0 w w' := by
 have H : (if (a0.size : Int) > 0 then (some (decide ((a0.size : Int) ≤ 28))) else (some false)) = some r := h
 clear h
 by_cases c2 : (a0.size : Int) > 0
 ·rw [if_pos c2] at H
  have c2b0 : decide (0 < (a0.size : Int)) = true := decide_eq_true c2
  have c2b1 : decide (0 < a0.size) = true := decide_eq_true (by omega)
  clear c2
  obtain rfl := Option.some.inj H
  go_enter Tryd.func74, Tryd.ntmps74
  go_wp2
  go_ret
  exact ⟨by first | rfl | (simp; done) | (simp [*]; done), by repeat (first | exact Drawn0.refl _ | apply Drawn0.step)⟩
 ·rw [if_neg c2] at H
  have c2b0 : decide (0 < (a0.size : Int)) = false := decide_eq_false c2
  have c2b1 : decide (0 < a0.size) = false := decide_eq_false (by omega)
  clear c2
  obtain rfl := Option.some.inj H
  go_enter Tryd.func74, Tryd.ntmps74
  go_wp2
  go_ret
  exact ⟨by first | rfl | (simp; done) | (simp [*]; done), by repeat (first | exact Drawn0.refl _ | apply Drawn0.step)⟩
def symGood (code data : Int) (s : S68) : Bool :=
 decide (s.f1 = 1 ∨ s.f1 = 2 ∨ s.f1 = 3) && decide (0 < s.f0.size ∧ s.f0.size ≤ 28) && decide (0 ≤ s.f2) && decide (s.f2 < (if s.f1 = 2 then data else code))
/-- How many texts there are, each counted once. -/
def distinct : List (List UInt8) → Nat
 | [] => 0
 | s :: r => distinct r + if s ∈ r then 0 else 1
theorem distinct_cons (s : List UInt8) (r : List (List UInt8)) : distinct (s :: r) = distinct r + if s ∈ r then 0 else 1 := rfl
def symNames (l : List S68) : List (List UInt8) := (l.map (·.f0.data.toList)).reverse
def objf_symbols.f (l0 : List S68) (a1 a2 : Int) : Option Bool :=
 some (l0.all (symGood a1 a2) && decide (distinct (symNames l0) = l0.length) && decide (l0.length ≤ 1000))
abbrev SymD := DataW Unit
def Named (D : SymD) (xs : List (List UInt8)) : Prop := (∀ s : List UInt8, Maps.has D (.string s) = decide (s ∈ xs)) ∧ Maps.size D = distinct xs
theorem named_nil : Named (.map []) [] := ⟨fun s => by simp [Maps.has], rfl⟩
theorem named_put {D : SymD} {xs : List (List UInt8)} (h : Named D xs) (t : Maps.Tidy D) (s : List UInt8) (d : SymD) : Named (D.put (.string s) d) (s :: xs) := by
 refine ⟨fun u => ?_, ?_⟩
 ·by_cases e : u = s
  ·subst e
   rw [Maps.has_put_same t.isMap (by simp [WideAt.IsKeyLit])]
   simp
  ·rw [Maps.has_put_other (fun h => e (by injection h)), h.1 u]
   simp [e]
 ·rw [Maps.size_put t, h.1 s, h.2]
  rw [distinct_cons]
  by_cases e : s ∈ xs <;> simp [e]
theorem symNames_snoc (l : List S68) (k : Nat) (h : k < l.length) : symNames (l.take (k + 1)) = (l.getD k z68).f0.data.toList :: symNames (l.take k) := by
 have e := congrArg (fun x : List S68 => (x.map (fun y => y.f0.data.toList)).reverse) (List.take_succ_eq_append_getElem h)
 refine Eq.trans e ?_
 simp only [symNames, List.map_append, List.reverse_append, List.map_cons, List.map_nil, List.reverse_cons, List.reverse_nil, List.nil_append, List.singleton_append, List.getD_eq_getElem?_getD, List.getElem?_eq_getElem h, Option.getD_some, List.cons_append]
theorem all_snoc (p : S68 → Bool) (l : List S68) (k : Nat) (h : k < l.length) : (l.take (k + 1)).all p = ((l.take k).all p && p (l.getD k z68)) := by
 rw [List.take_succ_eq_append_getElem h, List.all_append]
 simp [List.getD_eq_getElem?_getD, List.getElem?_eq_getElem h]
theorem all_false_of (p : S68 → Bool) (l : List S68) (k : Nat) (h : k < l.length) (hp : p (l.getD k z68) = false) : l.all p = false := by
 rw [List.all_eq_false]
 exact ⟨l[k], List.getElem_mem h, by rw [List.getD_eq_getElem?_getD, List.getElem?_eq_getElem h] at hp; simpa using hp⟩
theorem sym_law9 : Maps.Keyed Tryd.prog 9 := Maps.string_keyed Tryd.underlying9
theorem sym_zero3 (w : World) : (zeroValue 3).run Tryd.prog w = .ok (.int .i64 0) w := by kernel_rfl
theorem sym_grown {w W W1 : World} {b : Nat} (hg : W.grownBy W1 (some b)) (hb : w.heap.size ≤ b) (h : Below w.heap.size w W) : Below w.heap.size w W1 := h.grown hg h.size (fun j hj => by cases hj; exact hb)
theorem sym_bad {l0 : List S68} {a1 a2 : Int} {r : Bool} (h : objf_symbols.f l0 a1 a2 = some r) (k : Nat) (hk : k < l0.length) (hp : symGood a1 a2 (l0.getD k z68) = false) : r = false := by
 unfold objf_symbols.f at h
 rw [all_false_of _ _ k hk hp] at h
 simpa using h.symm
theorem sym_end {l0 : List S68} {a1 a2 : Int} {r : Bool} (h : objf_symbols.f l0 a1 a2 = some r) (hg : l0.all (symGood a1 a2) = true) : r = (decide (distinct (symNames l0) = l0.length) && decide (l0.length ≤ 1000)) := by
 unfold objf_symbols.f at h
 rw [hg] at h
 simpa using h.symm
set_option maxHeartbeats 8000000 in
set_option maxRecDepth 100000 in
theorem objf_symbols.calls (A0 : Option Addr) (c0 : Nat) (l0 : List (S68)) (a1 : Int) (a2 : Int) (r : Bool) (w : World) (hr0 : Kd.C k68 w A0 l0.length l0) (hc0 : l0.length ≤ c0) (h : objf_symbols.f l0 a1 a2 = some r) :
 Calls Tryd.prog 50 #[.slice A0 l0.length c0, .int .i64 a1, .int .i64 a2] w fun e w' => e = .returned (.bool r) ∧ Below w.heap.size w w' := by
 have hlm : l0.length ≤ 9223372036854775807 := by have := hr0.2.1; simpa [maxLen] using this
 have HR0 := z4 hr0
 have H := z4 h
 have hmm := @run_makeMap Tryd.prog
 clear hr0 h
 go_enter Tryd.func50, Tryd.ntmps50
 go_wp2
 go_loopw [14] (fun v wr => ∃ k : Nat, k ≤ l0.length ∧ v = .int .i64 k ∧ Aside0 ((l0.take k).all (symGood a1 a2) = true) ∧ (∃ D : SymD, Aside0 (wr.ownsMap Tryd.prog 9 (plainElem Tryd.prog 3) w.heap.size k D) ∧ Aside0 (Named D (symNames (l0.take k)))) ∧ Aside0 (Below w.heap.size w wr)) (fun v _ => l0.length - (intOf v).toNat)
 case atStart => exact ⟨0, Nat.zero_le _, rfl, ⟨rfl⟩, ⟨_, ⟨World.ownsMap_made _ _ _ _⟩, ⟨named_nil⟩⟩, ⟨(Below.refl _ _).alloc (Nat.le_refl _) _⟩⟩
 case round =>
  obtain ⟨k, hk, rfl, HG, ⟨D, HO, HN⟩, HB⟩ := hrel
  by_cases hlt : k < l0.length
  case neg =>
   obtain rfl : k = l0.length := by omega
   have hend := sym_end H.out (by simpa using HG.out)
   have hsz : Maps.size D = distinct (symNames l0) := by have := HN.out.2; simpa using this
   by_cases e1 : distinct (symNames l0) = l0.length
   ·have e2 : ((distinct (symNames l0) : Int) == (l0.length : Int)) = true := by simp [e1]
    have e3 : (distinct (symNames l0) == l0.length) = true := by simp [e1]
    have e4 : r = decide (l0.length ≤ 1000) := by rw [hend]; simp [e1]
    rw [← hsz] at e2 e3
    subst e4
    clear hend e1 hsz H hmm
    go_wp2_with (first | (at_len; refine wpList_len_own _ rfl _ 132 rfl 9 3 Tryd.underlying132 _ w.heap.size _ _ rfl HO.out ?_))
    go_ret
    exact ⟨by first | rfl | (simp; done) | (simp; omega), by repeat (first | exact HB.out | apply Below.drew)⟩
   ·have e2 : ((distinct (symNames l0) : Int) == (l0.length : Int)) = false := by simp; omega
    have e3 : (distinct (symNames l0) == l0.length) = false := by simp [e1]
    have e4 : r = false := by rw [hend]; simp [e1]
    rw [← hsz] at e2 e3
    subst e4
    clear hend e1 hsz H hmm
    go_wp2_with (first | (at_len; refine wpList_len_own _ rfl _ 132 rfl 9 3 Tryd.underlying132 _ w.heap.size _ _ rfl HO.out ?_))
    go_ret
    exact ⟨by first | rfl | (simp; done), by repeat (first | exact HB.out | apply Below.drew)⟩
  case pos =>
   obtain ⟨ad, he, hx0, hx1, hx2⟩ := at_T68 HR0.out (k : Int) (by omega) (by omega)
   cases he
   have hbad := fun hp => sym_bad H.out k hlt hp
   have hgood := fun (hp : symGood a1 a2 (l0.getD k z68) = true) => (show (l0.take (k + 1)).all (symGood a1 a2) = true by rw [all_snoc _ _ k hlt, HG.out, hp]; rfl)
   have hnm := symNames_snoc l0 k hlt
   have hrd : rd_T68 l0 (k : Int) = l0.getD k z68 := by simp [rd_T68]
   rw [hrd] at hx0 hx1 hx2
   clear hrd
   generalize l0.getD k z68 = s at hx0 hx1 hx2 hbad hgood hnm
   obtain ⟨s0, s1, s2⟩ := s
   replace hx0 := (HB.out.cell (World.block_lt_of_cell? w _ hx0)).trans hx0
   replace hx1 := (HB.out.cell (World.block_lt_of_cell? w _ hx1)).trans hx1
   replace hx2 := (HB.out.cell (World.block_lt_of_cell? w _ hx2)).trans hx2
   have hk1 : wrap64 ((k : Int) + 1) = ((k + 1 : Nat) : Int) := by unfold wrap64; omega
   simp only [Int.toNat_natCast] at hx0 hx1 hx2
   have HBAD := z4 hbad
   have HGOOD := z4 hgood
   have HNM := z4 hnm
   clear hbad hgood hnm H
   try dsimp only at hx0 hx1 hx2
   by_cases e2 : s1 = 2
   case pos =>
    subst e2
    by_cases hn : 0 < s0.size ∧ s0.size ≤ 28
    case neg =>
     have in1 : objf_isName.f s0 = some false := by unfold objf_isName.f; by_cases q : (s0.size : Int) > 0 <;> simp [q] <;> omega
     obtain rfl := HBAD.out (by simp [symGood, hn])
     go_wp2_with (first | (go_at_call 74; (with_reducible refine (objf_isName.calls s0 false _ in1).mono ?_); rintro e w1 ⟨rfl, ⟨n1, rfl⟩⟩))
     all_goals go_ret
     all_goals exact ⟨rfl, by (repeat (first | exact HB.out | apply Below.drew | apply zB | (refine Below.setCell ?_ (zL HB.out) _) | (refine Below.alloc ?_ (zL HB.out) _)))⟩
    case pos =>
     have in1 : objf_isName.f s0 = some true := by unfold objf_isName.f; rw [if_pos (by omega)]; simp; omega
     by_cases h0 : s2 < 0
     ·have d0 : decide (s2 < 0) = true := decide_eq_true h0
      obtain rfl := HBAD.out (by simp [symGood, show ¬ (0 ≤ s2) by omega])
      go_wp2_with (first | (go_at_call 74; (with_reducible refine (objf_isName.calls s0 true _ in1).mono ?_); rintro e w1 ⟨rfl, ⟨n1, rfl⟩⟩))
      all_goals go_ret
      all_goals exact ⟨rfl, by (repeat (first | exact HB.out | apply Below.drew | apply zB | (refine Below.setCell ?_ (zL HB.out) _) | (refine Below.alloc ?_ (zL HB.out) _)))⟩
     have d0 : decide (s2 < 0) = false := decide_eq_false h0
     by_cases h1 : a2 ≤ s2
     ·have d1 : decide (a2 ≤ s2) = true := decide_eq_true h1
      obtain rfl := HBAD.out (by simp [symGood, show ¬ (s2 < a2) by omega])
      go_wp2_with (first | (go_at_call 74; (with_reducible refine (objf_isName.calls s0 true _ in1).mono ?_); rintro e w1 ⟨rfl, ⟨n1, rfl⟩⟩))
      all_goals go_ret
      all_goals exact ⟨rfl, by (repeat (first | exact HB.out | apply Below.drew | apply zB | (refine Below.setCell ?_ (zL HB.out) _) | (refine Below.alloc ?_ (zL HB.out) _)))⟩
     have d1 : decide (a2 ≤ s2) = false := decide_eq_false h1
     have R1 := z4 (HGOOD.out (by simp [symGood, hn, show 0 ≤ s2 by omega, show s2 < a2 by omega]))
     have hkey : keyOf Tryd.prog 9 (.string s0) = some (.string s0.data.toList) := WideMaps.keyOf_string_mk Tryd.underlying9 (by unfold maxLen; omega)
     clear h0 h1 hn HBAD HGOOD
     go_wp2_with (first | (go_at_call 74; (with_reducible refine (objf_isName.calls s0 true _ in1).mono ?_); rintro e w1 ⟨rfl, ⟨n1, rfl⟩⟩) | (at_lookup; refine wpList_lookup_own_int _ rfl _ _ 132 rfl 9 3 .i64 sym_law9 Tryd.underlying132 Tryd.underlying3 (sym_zero3 _) w.heap.size k _ rfl (by repeat (first | exact HO.out | apply World.ownsMap.drew | apply World.ownsMap.alloc | (refine World.ownsMap.setCell ?_ (by have := HO.out.lt; simp; omega) _))) _ _ rfl hkey ?_; intro c hat hwc) | (at_mapUpdate; refine wpList_mapUpdate_own _ rfl _ _ _ 132 rfl 9 3 sym_law9 Tryd.underlying132 _ w.heap.size k _ rfl (by repeat (first | exact HO.out | apply World.ownsMap.drew | apply World.ownsMap.alloc | (refine World.ownsMap.setCell ?_ (by have := HO.out.lt; simp; omega) _))) (by unfold maxLen; omega) _ _ _ rfl rfl hkey _ [] (plainElem_int Tryd.underlying3 (wrap64_wf _)) ?_; intro w2 hown2 hgrow2; have HO2 := z4 hown2; have HB2 := z4 (sym_grown (w := w) hgrow2 (Nat.le_refl _) (by repeat (first | exact HB.out | apply Below.drew | apply zB | (refine Below.setCell ?_ (zL HB.out) _) | (refine Below.alloc ?_ (zL HB.out) _)))); clear hown2 hgrow2))
     go_roundw
     case rel => exact ⟨k + 1, by omega, by first | rfl | go_num, R1, ⟨_, HO2, ⟨by rw [HNM.out]; exact named_put HN.out (HO.out.tidy sym_law9) _ _⟩⟩, HB2⟩
     case measure => simp [intOf]; omega
   case neg =>
    have t2 : (s1 == 2) = false := z7 e2
    by_cases e1 : s1 = 1
    case pos =>
     subst e1
     clear t2 e2
     by_cases hn : 0 < s0.size ∧ s0.size ≤ 28
     case neg =>
      have in1 : objf_isName.f s0 = some false := by unfold objf_isName.f; by_cases q : (s0.size : Int) > 0 <;> simp [q] <;> omega
      obtain rfl := HBAD.out (by simp [symGood, hn])
      go_wp2_with (first | (go_at_call 74; (with_reducible refine (objf_isName.calls s0 false _ in1).mono ?_); rintro e w1 ⟨rfl, ⟨n1, rfl⟩⟩))
      all_goals go_ret
      all_goals exact ⟨rfl, by (repeat (first | exact HB.out | apply Below.drew | apply zB | (refine Below.setCell ?_ (zL HB.out) _) | (refine Below.alloc ?_ (zL HB.out) _)))⟩
     case pos =>
      have in1 : objf_isName.f s0 = some true := by unfold objf_isName.f; rw [if_pos (by omega)]; simp; omega
      by_cases h0 : s2 < 0
      ·have d0 : decide (s2 < 0) = true := decide_eq_true h0
       obtain rfl := HBAD.out (by simp [symGood, show ¬ (0 ≤ s2) by omega])
       go_wp2_with (first | (go_at_call 74; (with_reducible refine (objf_isName.calls s0 true _ in1).mono ?_); rintro e w1 ⟨rfl, ⟨n1, rfl⟩⟩))
       all_goals go_ret
       all_goals exact ⟨rfl, by (repeat (first | exact HB.out | apply Below.drew | apply zB | (refine Below.setCell ?_ (zL HB.out) _) | (refine Below.alloc ?_ (zL HB.out) _)))⟩
      have d0 : decide (s2 < 0) = false := decide_eq_false h0
      by_cases h1 : a1 ≤ s2
      ·have d1 : decide (a1 ≤ s2) = true := decide_eq_true h1
       obtain rfl := HBAD.out (by simp [symGood, show ¬ (s2 < a1) by omega])
       go_wp2_with (first | (go_at_call 74; (with_reducible refine (objf_isName.calls s0 true _ in1).mono ?_); rintro e w1 ⟨rfl, ⟨n1, rfl⟩⟩))
       all_goals go_ret
       all_goals exact ⟨rfl, by (repeat (first | exact HB.out | apply Below.drew | apply zB | (refine Below.setCell ?_ (zL HB.out) _) | (refine Below.alloc ?_ (zL HB.out) _)))⟩
      have d1 : decide (a1 ≤ s2) = false := decide_eq_false h1
      have R1 := z4 (HGOOD.out (by simp [symGood, hn, show 0 ≤ s2 by omega, show s2 < a1 by omega]))
      have hkey : keyOf Tryd.prog 9 (.string s0) = some (.string s0.data.toList) := WideMaps.keyOf_string_mk Tryd.underlying9 (by unfold maxLen; omega)
      clear h0 h1 hn HBAD HGOOD
      go_wp2_with (first | (go_at_call 74; (with_reducible refine (objf_isName.calls s0 true _ in1).mono ?_); rintro e w1 ⟨rfl, ⟨n1, rfl⟩⟩) | (at_lookup; refine wpList_lookup_own_int _ rfl _ _ 132 rfl 9 3 .i64 sym_law9 Tryd.underlying132 Tryd.underlying3 (sym_zero3 _) w.heap.size k _ rfl (by repeat (first | exact HO.out | apply World.ownsMap.drew | apply World.ownsMap.alloc | (refine World.ownsMap.setCell ?_ (by have := HO.out.lt; simp; omega) _))) _ _ rfl hkey ?_; intro c hat hwc) | (at_mapUpdate; refine wpList_mapUpdate_own _ rfl _ _ _ 132 rfl 9 3 sym_law9 Tryd.underlying132 _ w.heap.size k _ rfl (by repeat (first | exact HO.out | apply World.ownsMap.drew | apply World.ownsMap.alloc | (refine World.ownsMap.setCell ?_ (by have := HO.out.lt; simp; omega) _))) (by unfold maxLen; omega) _ _ _ rfl rfl hkey _ [] (plainElem_int Tryd.underlying3 (wrap64_wf _)) ?_; intro w2 hown2 hgrow2; have HO2 := z4 hown2; have HB2 := z4 (sym_grown (w := w) hgrow2 (Nat.le_refl _) (by repeat (first | exact HB.out | apply Below.drew | apply zB | (refine Below.setCell ?_ (zL HB.out) _) | (refine Below.alloc ?_ (zL HB.out) _)))); clear hown2 hgrow2))
      go_roundw
      case rel => exact ⟨k + 1, by omega, by first | rfl | go_num, R1, ⟨_, HO2, ⟨by rw [HNM.out]; exact named_put HN.out (HO.out.tidy sym_law9) _ _⟩⟩, HB2⟩
      case measure => simp [intOf]; omega
    case neg =>
     have t1 : (s1 == 1) = false := z7 e1
     by_cases e3 : s1 = 3
     case pos =>
      subst e3
      clear t2 e2 t1 e1
      by_cases hn : 0 < s0.size ∧ s0.size ≤ 28
      case neg =>
       have in1 : objf_isName.f s0 = some false := by unfold objf_isName.f; by_cases q : (s0.size : Int) > 0 <;> simp [q] <;> omega
       obtain rfl := HBAD.out (by simp [symGood, hn])
       go_wp2_with (first | (go_at_call 74; (with_reducible refine (objf_isName.calls s0 false _ in1).mono ?_); rintro e w1 ⟨rfl, ⟨n1, rfl⟩⟩))
       all_goals go_ret
       all_goals exact ⟨rfl, by (repeat (first | exact HB.out | apply Below.drew | apply zB | (refine Below.setCell ?_ (zL HB.out) _) | (refine Below.alloc ?_ (zL HB.out) _)))⟩
      case pos =>
       have in1 : objf_isName.f s0 = some true := by unfold objf_isName.f; rw [if_pos (by omega)]; simp; omega
       by_cases h0 : s2 < 0
       ·have d0 : decide (s2 < 0) = true := decide_eq_true h0
        obtain rfl := HBAD.out (by simp [symGood, show ¬ (0 ≤ s2) by omega])
        go_wp2_with (first | (go_at_call 74; (with_reducible refine (objf_isName.calls s0 true _ in1).mono ?_); rintro e w1 ⟨rfl, ⟨n1, rfl⟩⟩))
        all_goals go_ret
        all_goals exact ⟨rfl, by (repeat (first | exact HB.out | apply Below.drew | apply zB | (refine Below.setCell ?_ (zL HB.out) _) | (refine Below.alloc ?_ (zL HB.out) _)))⟩
       have d0 : decide (s2 < 0) = false := decide_eq_false h0
       by_cases h1 : a1 ≤ s2
       ·have d1 : decide (a1 ≤ s2) = true := decide_eq_true h1
        obtain rfl := HBAD.out (by simp [symGood, show ¬ (s2 < a1) by omega])
        go_wp2_with (first | (go_at_call 74; (with_reducible refine (objf_isName.calls s0 true _ in1).mono ?_); rintro e w1 ⟨rfl, ⟨n1, rfl⟩⟩))
        all_goals go_ret
        all_goals exact ⟨rfl, by (repeat (first | exact HB.out | apply Below.drew | apply zB | (refine Below.setCell ?_ (zL HB.out) _) | (refine Below.alloc ?_ (zL HB.out) _)))⟩
       have d1 : decide (a1 ≤ s2) = false := decide_eq_false h1
       have R1 := z4 (HGOOD.out (by simp [symGood, hn, show 0 ≤ s2 by omega, show s2 < a1 by omega]))
       have hkey : keyOf Tryd.prog 9 (.string s0) = some (.string s0.data.toList) := WideMaps.keyOf_string_mk Tryd.underlying9 (by unfold maxLen; omega)
       clear h0 h1 hn HBAD HGOOD
       go_wp2_with (first | (go_at_call 74; (with_reducible refine (objf_isName.calls s0 true _ in1).mono ?_); rintro e w1 ⟨rfl, ⟨n1, rfl⟩⟩) | (at_lookup; refine wpList_lookup_own_int _ rfl _ _ 132 rfl 9 3 .i64 sym_law9 Tryd.underlying132 Tryd.underlying3 (sym_zero3 _) w.heap.size k _ rfl (by repeat (first | exact HO.out | apply World.ownsMap.drew | apply World.ownsMap.alloc | (refine World.ownsMap.setCell ?_ (by have := HO.out.lt; simp; omega) _))) _ _ rfl hkey ?_; intro c hat hwc) | (at_mapUpdate; refine wpList_mapUpdate_own _ rfl _ _ _ 132 rfl 9 3 sym_law9 Tryd.underlying132 _ w.heap.size k _ rfl (by repeat (first | exact HO.out | apply World.ownsMap.drew | apply World.ownsMap.alloc | (refine World.ownsMap.setCell ?_ (by have := HO.out.lt; simp; omega) _))) (by unfold maxLen; omega) _ _ _ rfl rfl hkey _ [] (plainElem_int Tryd.underlying3 (wrap64_wf _)) ?_; intro w2 hown2 hgrow2; have HO2 := z4 hown2; have HB2 := z4 (sym_grown (w := w) hgrow2 (Nat.le_refl _) (by repeat (first | exact HB.out | apply Below.drew | apply zB | (refine Below.setCell ?_ (zL HB.out) _) | (refine Below.alloc ?_ (zL HB.out) _)))); clear hown2 hgrow2))
       go_roundw
       case rel => exact ⟨k + 1, by omega, by first | rfl | go_num, R1, ⟨_, HO2, ⟨by rw [HNM.out]; exact named_put HN.out (HO.out.tidy sym_law9) _ _⟩⟩, HB2⟩
       case measure => simp [intOf]; omega
     case neg =>
      have t3 : (s1 == 3) = false := z7 e3
      obtain rfl := HBAD.out (by simp [symGood, e1, e2, e3])
      go_wp2_with (fail)
      all_goals go_ret
      all_goals exact ⟨rfl, by (repeat (first | exact HB.out | apply Below.drew | apply zB | (refine Below.setCell ?_ (zL HB.out) _) | (refine Below.alloc ?_ (zL HB.out) _)))⟩
end Go.Proofs.YtimhcpmfhebbhaaDoor.M
namespace Go.Proofs.YtimhcpmfhebbhaaDoor.M
open Go.RowKit Go.Proofs.YtimhcpmfhebbhaaDoorW.PrintWords Go.Proofs.YtimhcpmfhebbhaaDoorW.PrintLast
set_option linter.unusedVariables false
set_option linter.unusedSimpArgs false
mutual
def objf_relocations.l0 : Nat → List (S116) → Int → Int → List (S116) → Int → Int → Option (Bool)
 | 0, _, _, _, _, _, _ => none
 | k + 1, x0, x1, x5, x8, x9, x10 => if x10 < x9 then (if 0 ≤ x10 then (if x10 < (x8.length : Int) then ((objf_isName.f ((rd_T116 x8 x10).f2)).bind fun t177 => (if t177 = true then (if ((rd_T116 x8 x10).f0) < x5 then (objf_relocations.j1 k x0 x1 x8 x9 x10 true ((rd_T116 x8 x10).f0) ((rd_T116 x8 x10).f1) ((rd_T116 x8 x10).f2) ((rd_T116 x8 x10).f3)) else (objf_relocations.j1 k x0 x1 x8 x9 x10 (decide (((rd_T116 x8 x10).f0) > (wrap64 (x1 - 4)))) ((rd_T116 x8 x10).f0) ((rd_T116 x8 x10).f1) ((rd_T116 x8 x10).f2) ((rd_T116 x8 x10).f3))) else (objf_relocations.j1 k x0 x1 x8 x9 x10 true ((rd_T116 x8 x10).f0) ((rd_T116 x8 x10).f1) ((rd_T116 x8 x10).f2) ((rd_T116 x8 x10).f3)))) else (none)) else (none)) else (some (decide ((x0.length : Int) ≤ 8000)))
def objf_relocations.j1 : Nat → List (S116) → Int → List (S116) → Int → Int → Bool → Int → Int → ByteArray → Int → Option (Bool)
 | 0, _, _, _, _, _, _, _, _, _, _ => none
 | k + 1, x0, x1, x8, x9, x10, x30, x177000, x177001, x177002, x177003 => if x30 = true then (some false) else (if x177001 = 1 then (if x177003 = 0 then (objf_relocations.l0 k x0 x1 (wrap64 (x177000 + 4)) x8 x9 (wrap64 (x10 + 1))) else (some false)) else (if x177001 = 2 then (if x177003 < (-2147483648) then (some false) else (if x177003 > 2147483647 then (some false) else (objf_relocations.l0 k x0 x1 (wrap64 (x177000 + 4)) x8 x9 (wrap64 (x10 + 1))))) else (some false)))
end
def objf_relocations.f (k : Nat) (l0 : List (S116)) (a1 : Int) : Option (Bool) := objf_relocations.l0 k l0 a1 0 l0 (l0.length : Int) 0
set_option maxHeartbeats 8000000 in
set_option maxRecDepth 100000 in
theorem objf_relocations.calls (k : Nat) (A0 : Option Addr) (c0 : Nat) (l0 : List (S116)) (a1 : Int) (r : Bool) (w : World) (hr0 : Kd.C k116 w A0 l0.length l0) (hc0 : l0.length ≤ c0) (h : objf_relocations.f k l0 a1 = some r) :
 Calls Tryd.prog 51 #[.slice A0 l0.length c0, .int .i64 a1] w fun e w' => e = .returned (.bool r) ∧ Below w.heap.size w w' := by
 have hu116 := Tryd.underlying116
 have HR0 := z4 hr0
 have HC0 := z4 hc0
 clear hr0 hc0
 have HB := z4 (Below.refl w.heap.size w)
 have H : (objf_relocations.l0 k l0 a1 0 l0 (l0.length : Int) 0) = some r := h
 clear h
 have H' := z4 H
 clear H
 go_enter Tryd.func51, Tryd.ntmps51
 go_wp2
 go_loopg [5, 10] k (fun kq v5 v10 w' => ∃ (x5_1 : Int) (x10_1 : Int), v5 = .int .i64 x5_1 ∧ v10 = .int .i64 x10_1 ∧ Aside0 (objf_relocations.l0 kq l0 a1 x5_1 l0 (l0.length : Int) x10_1 = some r) ∧ Aside0 (kq ≤ k) ∧ Aside0 (Below w.heap.size w w'))
 case atStart => exact ⟨(0), (0), (by first | rfl | (simp; done) | (simp [*]; done)), (by first | rfl | (simp; done) | (simp [*]; done)), H', ⟨Nat.le_refl _⟩, ⟨by repeat (first | exact HB.out | apply zA | apply zB | apply zD)⟩⟩
 case round =>
  clear H'
  try clear p2
  obtain ⟨x5_1, x10_1, rfl, rfl, HA, HK1, HB⟩ := hrel
  cases gk with
  | zero => exact absurd HA.out (by simp [objf_relocations.l0])
  | succ k1 =>
   have H := HA.out
   clear HA
   simp only [objf_relocations.l0] at H
   by_cases c3 : x10_1 < (l0.length : Int)
   ·rw [if_pos c3] at H
    have c3b0 : decide (x10_1 < (l0.length : Int)) = true := decide_eq_true c3
    clear c3
    by_cases c4 : 0 ≤ x10_1
    ·rw [if_pos c4] at H
     have c4b0 : decide (0 ≤ x10_1) = true := decide_eq_true c4
     clear c4
     by_cases c5 : x10_1 < (l0.length : Int)
     ·rw [if_pos c5] at H
      have c5b0 : decide (x10_1 < (l0.length : Int)) = true := decide_eq_true c5
      clear c5
      have HC6 := z4 H
      clear H
      have p175 : 0 ≤ (x10_1 : Int) := of_decide_eq_true (by first | (with_reducible assumption) | assumption)
      have q175 : x10_1 < (l0.length : Int) := of_decide_eq_true (by first | (with_reducible assumption) | assumption)
      obtain ⟨ad175, e175, hx175_0, hx175_1, hx175_2, hx175_3⟩ := at_T116 HR0.out x10_1 p175 q175
      cases e175
      replace hx175_0 := (HB.out.cell (World.block_lt_of_cell? w _ hx175_0)).trans hx175_0
      replace hx175_1 := (HB.out.cell (World.block_lt_of_cell? w _ hx175_1)).trans hx175_1
      replace hx175_2 := (HB.out.cell (World.block_lt_of_cell? w _ hx175_2)).trans hx175_2
      replace hx175_3 := (HB.out.cell (World.block_lt_of_cell? w _ hx175_3)).trans hx175_3
      replace p175 := eq_true p175
      replace q175 := eq_true q175
      go_upto_region 5 with (first | ((with_reducible refine gate_dst (N := 7) rfl ?_); refine box_event ?hg (N := 7) ?hd (cs := #[.int .i64 0, .int .i64 0, .string (⟨#[]⟩ : ByteArray), .int .i64 0]) (t := 116) ?hr ?_; (case hd => rfl); (case hg => rfl); (case hr => first | (go_simp; done) | (go_simp; rfl)); intro gb176 hg w7 hbox hb; have n0_ := z4 (zK (by repeat (first | exact HB.out | apply zA | apply zB | apply zD)) hb); have n1_ := z4 (hbox); have n2_ := z4 ((by rw [hg]; exact (zL (by repeat (first | exact HB.out | apply zA | apply zB | apply zD))) : w.heap.size ≤ gb176)); have n3_ := z4 ((by rw [hg]; exact (zL (by repeat (first | exact HB.out | apply zA | apply zB | apply zD))) : w.heap.size ≤ gb176)); clear HB; have HB := n0_; have BK176 := n1_; have GW176 := n2_; have GE176 := n3_; clear n0_ n1_ n2_ n3_; clear hb hbox hg; have hcz8_0 : w7.cell? ⟨gb176, 0, none⟩ = some (.int .i64 0) := (zC BK176.out 0).trans rfl; have hcz8_1 : w7.cell? ⟨gb176, 1, none⟩ = some (.int .i64 0) := (zC BK176.out 1).trans rfl; have hcz8_2 : w7.cell? ⟨gb176, 2, none⟩ = some (.string (⟨#[]⟩ : ByteArray)) := (zC BK176.out 2).trans rfl; have hcz8_3 : w7.cell? ⟨gb176, 3, none⟩ = some (.int .i64 0) := (zC BK176.out 3).trans rfl; have hfz8_0 := zF BK176.out 0; have hfz8_1 := zF BK176.out 1; have hfz8_2 := zF BK176.out 2; have hfz8_3 := zF BK176.out 3))
      (try simp only [Act.put, z1, z2, z3])
      go_cut [30] (fun v30 wc => ∃ (kq : Nat) (x30_5 : Bool), v30 = .bool x30_5 ∧ Aside0 (objf_relocations.j1 kq l0 a1 l0 (l0.length : Int) x10_1 x30_5 ((rd_T116 l0 x10_1).f0) ((rd_T116 l0 x10_1).f1) ((rd_T116 l0 x10_1).f2) ((rd_T116 l0 x10_1).f3) = some r) ∧ Aside0 (kq ≤ k1) ∧ Aside0 (wc.heap[gb176]? = some (.cells #[.int .i64 ((rd_T116 l0 x10_1).f0), .int .i64 ((rd_T116 l0 x10_1).f1), .string ((rd_T116 l0 x10_1).f2), .int .i64 ((rd_T116 l0 x10_1).f3)] 116 (0, 0))) ∧ Aside0 (Below w.heap.size w wc))
      case first =>
       have H := HC6.out
       clear HC6
       replace H := z8 H
       obtain ⟨t177, A90, H⟩ := H
       replace H : (if t177 = true then (if ((rd_T116 l0 x10_1).f0) < x5_1 then (objf_relocations.j1 k1 l0 a1 l0 (l0.length : Int) x10_1 true ((rd_T116 l0 x10_1).f0) ((rd_T116 l0 x10_1).f1) ((rd_T116 l0 x10_1).f2) ((rd_T116 l0 x10_1).f3)) else (objf_relocations.j1 k1 l0 a1 l0 (l0.length : Int) x10_1 (decide (((rd_T116 l0 x10_1).f0) > (wrap64 (a1 - 4)))) ((rd_T116 l0 x10_1).f0) ((rd_T116 l0 x10_1).f1) ((rd_T116 l0 x10_1).f2) ((rd_T116 l0 x10_1).f3))) else (objf_relocations.j1 k1 l0 a1 l0 (l0.length : Int) x10_1 true ((rd_T116 l0 x10_1).f0) ((rd_T116 l0 x10_1).f1) ((rd_T116 l0 x10_1).f2) ((rd_T116 l0 x10_1).f3))) = some r := H
       have A9 := z4 A90
       clear A90
       by_cases c10 : t177 = true
       ·subst c10
        have H1 : (if ((rd_T116 l0 x10_1).f0) < x5_1 then (objf_relocations.j1 k1 l0 a1 l0 (l0.length : Int) x10_1 true ((rd_T116 l0 x10_1).f0) ((rd_T116 l0 x10_1).f1) ((rd_T116 l0 x10_1).f2) ((rd_T116 l0 x10_1).f3)) else (objf_relocations.j1 k1 l0 a1 l0 (l0.length : Int) x10_1 (decide (((rd_T116 l0 x10_1).f0) > (wrap64 (a1 - 4)))) ((rd_T116 l0 x10_1).f0) ((rd_T116 l0 x10_1).f1) ((rd_T116 l0 x10_1).f2) ((rd_T116 l0 x10_1).f3))) = some r := by rw [if_pos rfl] at H; exact H
        clear H
        have H := H1
        clear H1
        by_cases c11 : ((rd_T116 l0 x10_1).f0) < x5_1
        ·rw [if_pos c11] at H
         have c11b0 : decide (((rd_T116 l0 x10_1).f0) < x5_1) = true := decide_eq_true c11
         clear c11
         (first | rw [c11b0] | (simp only [i64_w, i32_w]; rw [c11b0]) | skip)
         have H' := z4 H
         clear H
         have hcz12_0 : w7.cell? ⟨gb176, 0, none⟩ = some (.int .i64 0) := (zC BK176.out 0).trans rfl
         have hcz12_1 : w7.cell? ⟨gb176, 1, none⟩ = some (.int .i64 0) := (zC BK176.out 1).trans rfl
         have hcz12_2 : w7.cell? ⟨gb176, 2, none⟩ = some (.string (⟨#[]⟩ : ByteArray)) := (zC BK176.out 2).trans rfl
         have hcz12_3 : w7.cell? ⟨gb176, 3, none⟩ = some (.int .i64 0) := (zC BK176.out 3).trans rfl
         have hfz12_0 := zF BK176.out 0
         have hfz12_1 := zF BK176.out 1
         have hfz12_2 := zF BK176.out 2
         have hfz12_3 := zF BK176.out 3
         go_wp2_with (first | ((with_reducible refine gate_callee (f := 74) rfl ?_); refine goesL_ (some 16) rfl rfl Tryd.func74 (by kernel_rfl) rfl #[.string ((rd_T116 l0 x10_1).f2)] rfl (by (try simp only [z9, List.map_cons, List.map_nil]); first | done | rfl | (simp only [z9a, z9b]; rfl)) ?_; (with_reducible refine (objf_isName.calls ((rd_T116 l0 x10_1).f2) true _ A9.out).mono ?_); rintro e w' ⟨rfl, ⟨nd, rfl⟩⟩; refine ⟨_, rfl, ?_⟩))
         go_meet
         case rel => exact ⟨_, (true), (by first | rfl | (simp; done) | (simp [*]; done)), H', ⟨by have := HK1.out; first | omega | exact Nat.le_refl _⟩, ⟨by (with_reducible repeat (first | refine zH ?_ _ | refine zI ?_ | refine zG ?_ _)); refine blk_put (cs := #[.int .i64 ((rd_T116 l0 x10_1).f0), .int .i64 ((rd_T116 l0 x10_1).f1), .string ((rd_T116 l0 x10_1).f2), .int .i64 0]) ?_ 3 _ rfl; (with_reducible repeat (first | refine zH ?_ _ | refine zI ?_ | refine zG ?_ _)); refine blk_put (cs := #[.int .i64 ((rd_T116 l0 x10_1).f0), .int .i64 ((rd_T116 l0 x10_1).f1), .string (⟨#[]⟩ : ByteArray), .int .i64 0]) ?_ 2 _ rfl; (with_reducible repeat (first | refine zH ?_ _ | refine zI ?_ | refine zG ?_ _)); refine blk_put (cs := #[.int .i64 ((rd_T116 l0 x10_1).f0), .int .i64 0, .string (⟨#[]⟩ : ByteArray), .int .i64 0]) ?_ 1 _ rfl; (with_reducible repeat (first | refine zH ?_ _ | refine zI ?_ | refine zG ?_ _)); refine blk_put (cs := #[.int .i64 0, .int .i64 0, .string (⟨#[]⟩ : ByteArray), .int .i64 0]) ?_ 0 _ rfl; (with_reducible repeat (first | refine zH ?_ _ | refine zI ?_ | refine zG ?_ _)); exact BK176.out⟩, ⟨by repeat (first | exact HB.out | apply zA | apply zB | apply zD | refine zJ ?_ GE176.out)⟩⟩
        ·rw [if_neg c11] at H
         have c11b0 : decide (((rd_T116 l0 x10_1).f0) < x5_1) = false := decide_eq_false c11
         clear c11
         (first | rw [c11b0] | (simp only [i64_w, i32_w]; rw [c11b0]) | skip)
         have H' := z4 H
         clear H
         have hcz13_0 : w7.cell? ⟨gb176, 0, none⟩ = some (.int .i64 0) := (zC BK176.out 0).trans rfl
         have hcz13_1 : w7.cell? ⟨gb176, 1, none⟩ = some (.int .i64 0) := (zC BK176.out 1).trans rfl
         have hcz13_2 : w7.cell? ⟨gb176, 2, none⟩ = some (.string (⟨#[]⟩ : ByteArray)) := (zC BK176.out 2).trans rfl
         have hcz13_3 : w7.cell? ⟨gb176, 3, none⟩ = some (.int .i64 0) := (zC BK176.out 3).trans rfl
         have hfz13_0 := zF BK176.out 0
         have hfz13_1 := zF BK176.out 1
         have hfz13_2 := zF BK176.out 2
         have hfz13_3 := zF BK176.out 3
         go_wp2_with (first | ((with_reducible refine gate_callee (f := 74) rfl ?_); refine goesL_ (some 16) rfl rfl Tryd.func74 (by kernel_rfl) rfl #[.string ((rd_T116 l0 x10_1).f2)] rfl (by (try simp only [z9, List.map_cons, List.map_nil]); first | done | rfl | (simp only [z9a, z9b]; rfl)) ?_; (with_reducible refine (objf_isName.calls ((rd_T116 l0 x10_1).f2) true _ A9.out).mono ?_); rintro e w' ⟨rfl, ⟨nd, rfl⟩⟩; refine ⟨_, rfl, ?_⟩))
         go_meet
         case rel => exact ⟨_, (decide (((rd_T116 l0 x10_1).f0) > (wrap64 (a1 - 4)))), (by first | rfl | (simp; done) | (simp [*]; done)), H', ⟨by have := HK1.out; first | omega | exact Nat.le_refl _⟩, ⟨by (with_reducible repeat (first | refine zH ?_ _ | refine zI ?_ | refine zG ?_ _)); refine blk_put (cs := #[.int .i64 ((rd_T116 l0 x10_1).f0), .int .i64 ((rd_T116 l0 x10_1).f1), .string ((rd_T116 l0 x10_1).f2), .int .i64 0]) ?_ 3 _ rfl; (with_reducible repeat (first | refine zH ?_ _ | refine zI ?_ | refine zG ?_ _)); refine blk_put (cs := #[.int .i64 ((rd_T116 l0 x10_1).f0), .int .i64 ((rd_T116 l0 x10_1).f1), .string (⟨#[]⟩ : ByteArray), .int .i64 0]) ?_ 2 _ rfl; (with_reducible repeat (first | refine zH ?_ _ | refine zI ?_ | refine zG ?_ _)); refine blk_put (cs := #[.int .i64 ((rd_T116 l0 x10_1).f0), .int .i64 0, .string (⟨#[]⟩ : ByteArray), .int .i64 0]) ?_ 1 _ rfl; (with_reducible repeat (first | refine zH ?_ _ | refine zI ?_ | refine zG ?_ _)); refine blk_put (cs := #[.int .i64 0, .int .i64 0, .string (⟨#[]⟩ : ByteArray), .int .i64 0]) ?_ 0 _ rfl; (with_reducible repeat (first | refine zH ?_ _ | refine zI ?_ | refine zG ?_ _)); exact BK176.out⟩, ⟨by repeat (first | exact HB.out | apply zA | apply zB | apply zD | refine zJ ?_ GE176.out)⟩⟩
       ·replace c10 := Bool.eq_false_iff.mpr c10
        subst c10
        have H1 : (objf_relocations.j1 k1 l0 a1 l0 (l0.length : Int) x10_1 true ((rd_T116 l0 x10_1).f0) ((rd_T116 l0 x10_1).f1) ((rd_T116 l0 x10_1).f2) ((rd_T116 l0 x10_1).f3)) = some r := by rw [if_neg (show ¬ (false = true) by decide)] at H; exact H
        clear H
        have H := H1
        clear H1
        have H' := z4 H
        clear H
        have hcz14_0 : w7.cell? ⟨gb176, 0, none⟩ = some (.int .i64 0) := (zC BK176.out 0).trans rfl
        have hcz14_1 : w7.cell? ⟨gb176, 1, none⟩ = some (.int .i64 0) := (zC BK176.out 1).trans rfl
        have hcz14_2 : w7.cell? ⟨gb176, 2, none⟩ = some (.string (⟨#[]⟩ : ByteArray)) := (zC BK176.out 2).trans rfl
        have hcz14_3 : w7.cell? ⟨gb176, 3, none⟩ = some (.int .i64 0) := (zC BK176.out 3).trans rfl
        have hfz14_0 := zF BK176.out 0
        have hfz14_1 := zF BK176.out 1
        have hfz14_2 := zF BK176.out 2
        have hfz14_3 := zF BK176.out 3
        go_wp2_with (first | ((with_reducible refine gate_callee (f := 74) rfl ?_); refine goesL_ (some 16) rfl rfl Tryd.func74 (by kernel_rfl) rfl #[.string ((rd_T116 l0 x10_1).f2)] rfl (by (try simp only [z9, List.map_cons, List.map_nil]); first | done | rfl | (simp only [z9a, z9b]; rfl)) ?_; (with_reducible refine (objf_isName.calls ((rd_T116 l0 x10_1).f2) false _ A9.out).mono ?_); rintro e w' ⟨rfl, ⟨nd, rfl⟩⟩; refine ⟨_, rfl, ?_⟩))
        go_meet
        case rel => exact ⟨_, (true), (by first | rfl | (simp; done) | (simp [*]; done)), H', ⟨by have := HK1.out; first | omega | exact Nat.le_refl _⟩, ⟨by (with_reducible repeat (first | refine zH ?_ _ | refine zI ?_ | refine zG ?_ _)); refine blk_put (cs := #[.int .i64 ((rd_T116 l0 x10_1).f0), .int .i64 ((rd_T116 l0 x10_1).f1), .string ((rd_T116 l0 x10_1).f2), .int .i64 0]) ?_ 3 _ rfl; (with_reducible repeat (first | refine zH ?_ _ | refine zI ?_ | refine zG ?_ _)); refine blk_put (cs := #[.int .i64 ((rd_T116 l0 x10_1).f0), .int .i64 ((rd_T116 l0 x10_1).f1), .string (⟨#[]⟩ : ByteArray), .int .i64 0]) ?_ 2 _ rfl; (with_reducible repeat (first | refine zH ?_ _ | refine zI ?_ | refine zG ?_ _)); refine blk_put (cs := #[.int .i64 ((rd_T116 l0 x10_1).f0), .int .i64 0, .string (⟨#[]⟩ : ByteArray), .int .i64 0]) ?_ 1 _ rfl; (with_reducible repeat (first | refine zH ?_ _ | refine zI ?_ | refine zG ?_ _)); refine blk_put (cs := #[.int .i64 0, .int .i64 0, .string (⟨#[]⟩ : ByteArray), .int .i64 0]) ?_ 0 _ rfl; (with_reducible repeat (first | refine zH ?_ _ | refine zI ?_ | refine zG ?_ _)); exact BK176.out⟩, ⟨by repeat (first | exact HB.out | apply zA | apply zB | apply zD | refine zJ ?_ GE176.out)⟩⟩
      case rest =>
       clear HC6
       try clear c1
       try clear p1
       try clear q1
       try clear hx1
       try clear p2
       try clear c3
       try clear c3b0
       try clear c4
       try clear c4b0
       try clear c5
       try clear c5b0
       try clear p6
       try clear c7
       try clear c10
       try clear c11
       try clear c11b0
       try clear hcz12_0
       try clear hcz12_1
       try clear hcz12_2
       try clear hcz12_3
       try clear hcz13_0
       try clear hcz13_1
       try clear hcz13_2
       try clear hcz13_3
       try clear hcz14_0
       try clear hcz14_1
       try clear hcz14_2
       try clear hcz14_3
       try clear hcz8_0
       try clear hcz8_1
       try clear hcz8_2
       try clear hcz8_3
       try clear hfz12_0
       try clear hfz12_1
       try clear hfz12_2
       try clear hfz12_3
       try clear hfz13_0
       try clear hfz13_1
       try clear hfz13_2
       try clear hfz13_3
       try clear hfz14_0
       try clear hfz14_1
       try clear hfz14_2
       try clear hfz14_3
       try clear hfz8_0
       try clear hfz8_1
       try clear hfz8_2
       try clear hfz8_3
       try clear hx175_0
       try clear hx175_1
       try clear hx175_2
       try clear hx175_3
       try clear p175
       try clear p2
       try clear q175
       obtain ⟨kq, x30_5, rfl, HA, HJ5, BK176, HB⟩ := hcut
       cases kq with
       | zero => exact absurd HA.out (by simp [objf_relocations.j1])
       | succ kj5 =>
        have H := HA.out
        clear HA
        simp only [objf_relocations.j1] at H
        by_cases c15 : x30_5 = true
        ·subst c15
         have H1 : (some false) = some r := by rw [if_pos rfl] at H; exact H
         clear H
         have H := H1
         clear H1
         obtain rfl := Option.some.inj H
         go_wp2
         go_ret
         exact ⟨by first | rfl | (simp [errW_none, errW_some] <;> rfl) | (simp [*, errW_none, errW_some] <;> rfl), by repeat (first | exact HB.out | apply zA | apply zB | apply zD | refine zJ ?_ GE176.out)⟩
        ·replace c15 := Bool.eq_false_iff.mpr c15
         subst c15
         have H1 : (if ((rd_T116 l0 x10_1).f1) = 1 then (if ((rd_T116 l0 x10_1).f3) = 0 then (objf_relocations.l0 kj5 l0 a1 (wrap64 (((rd_T116 l0 x10_1).f0) + 4)) l0 (l0.length : Int) (wrap64 (x10_1 + 1))) else (some false)) else (if ((rd_T116 l0 x10_1).f1) = 2 then (if ((rd_T116 l0 x10_1).f3) < (-2147483648) then (some false) else (if ((rd_T116 l0 x10_1).f3) > 2147483647 then (some false) else (objf_relocations.l0 kj5 l0 a1 (wrap64 (((rd_T116 l0 x10_1).f0) + 4)) l0 (l0.length : Int) (wrap64 (x10_1 + 1))))) else (some false))) = some r := by rw [if_neg (show ¬ (false = true) by decide)] at H; exact H
         clear H
         have H := H1
         clear H1
         by_cases c16 : ((rd_T116 l0 x10_1).f1) = 1
         ·rw [if_pos c16] at H
          have c16b0 : (((rd_T116 l0 x10_1).f1) == 1) = true := z5 c16
          have c16b1 : (((rd_T116 l0 x10_1).f1) != 1) = false := z6 c16
          clear c16
          by_cases c17 : ((rd_T116 l0 x10_1).f3) = 0
          ·rw [if_pos c17] at H
           have c17b0 : (((rd_T116 l0 x10_1).f3) == 0) = true := z5 c17
           have c17b1 : (((rd_T116 l0 x10_1).f3) != 0) = false := z6 c17
           clear c17
           have H' := z4 H
           clear H
           have hcz18_0 : wc.cell? ⟨gb176, 0, none⟩ = some (.int .i64 ((rd_T116 l0 x10_1).f0)) := (zC BK176.out 0).trans rfl
           have hcz18_1 : wc.cell? ⟨gb176, 1, none⟩ = some (.int .i64 ((rd_T116 l0 x10_1).f1)) := (zC BK176.out 1).trans rfl
           have hcz18_2 : wc.cell? ⟨gb176, 2, none⟩ = some (.string ((rd_T116 l0 x10_1).f2)) := (zC BK176.out 2).trans rfl
           have hcz18_3 : wc.cell? ⟨gb176, 3, none⟩ = some (.int .i64 ((rd_T116 l0 x10_1).f3)) := (zC BK176.out 3).trans rfl
           have hfz18_0 := zF BK176.out 0
           have hfz18_1 := zF BK176.out 1
           have hfz18_2 := zF BK176.out 2
           have hfz18_3 := zF BK176.out 3
           go_wp2
           go_roundg kj5
           case measure => have := HK1.out; have := HJ5.out; omega
           case rel => exact ⟨(wrap64 (((rd_T116 l0 x10_1).f0) + 4)), (wrap64 (x10_1 + 1)), (by first | rfl | (simp; done) | (simp [*]; done)), (by first | rfl | (simp; done) | (simp [*]; done)), H', ⟨by have := HK1.out; have := HJ5.out; omega⟩, ⟨by repeat (first | exact HB.out | apply zA | apply zB | apply zD | refine zJ ?_ GE176.out)⟩⟩
          ·rw [if_neg c17] at H
           have c17b0 : (((rd_T116 l0 x10_1).f3) == 0) = false := z7 c17
           have c17b1 : (((rd_T116 l0 x10_1).f3) != 0) = true := bne_iff_ne.mpr c17
           obtain rfl := Option.some.inj H
           have hcz19_0 : wc.cell? ⟨gb176, 0, none⟩ = some (.int .i64 ((rd_T116 l0 x10_1).f0)) := (zC BK176.out 0).trans rfl
           have hcz19_1 : wc.cell? ⟨gb176, 1, none⟩ = some (.int .i64 ((rd_T116 l0 x10_1).f1)) := (zC BK176.out 1).trans rfl
           have hcz19_2 : wc.cell? ⟨gb176, 2, none⟩ = some (.string ((rd_T116 l0 x10_1).f2)) := (zC BK176.out 2).trans rfl
           have hcz19_3 : wc.cell? ⟨gb176, 3, none⟩ = some (.int .i64 ((rd_T116 l0 x10_1).f3)) := (zC BK176.out 3).trans rfl
           have hfz19_0 := zF BK176.out 0
           have hfz19_1 := zF BK176.out 1
           have hfz19_2 := zF BK176.out 2
           have hfz19_3 := zF BK176.out 3
           go_wp2
           go_ret
           exact ⟨by first | rfl | (simp [errW_none, errW_some] <;> rfl) | (simp [*, errW_none, errW_some] <;> rfl), by repeat (first | exact HB.out | apply zA | apply zB | apply zD | refine zJ ?_ GE176.out)⟩
         ·rw [if_neg c16] at H
          have c16b0 : (((rd_T116 l0 x10_1).f1) == 1) = false := z7 c16
          have c16b1 : (((rd_T116 l0 x10_1).f1) != 1) = true := bne_iff_ne.mpr c16
          by_cases c20 : ((rd_T116 l0 x10_1).f1) = 2
          ·rw [if_pos c20] at H
           have c20b0 : (((rd_T116 l0 x10_1).f1) == 2) = true := z5 c20
           have c20b1 : (((rd_T116 l0 x10_1).f1) != 2) = false := z6 c20
           clear c20
           by_cases c21 : ((rd_T116 l0 x10_1).f3) < (-2147483648)
           ·rw [if_pos c21] at H
            have c21b0 : decide (((rd_T116 l0 x10_1).f3) < (-2147483648)) = true := decide_eq_true c21
            clear c21
            obtain rfl := Option.some.inj H
            have hcz22_0 : wc.cell? ⟨gb176, 0, none⟩ = some (.int .i64 ((rd_T116 l0 x10_1).f0)) := (zC BK176.out 0).trans rfl
            have hcz22_1 : wc.cell? ⟨gb176, 1, none⟩ = some (.int .i64 ((rd_T116 l0 x10_1).f1)) := (zC BK176.out 1).trans rfl
            have hcz22_2 : wc.cell? ⟨gb176, 2, none⟩ = some (.string ((rd_T116 l0 x10_1).f2)) := (zC BK176.out 2).trans rfl
            have hcz22_3 : wc.cell? ⟨gb176, 3, none⟩ = some (.int .i64 ((rd_T116 l0 x10_1).f3)) := (zC BK176.out 3).trans rfl
            have hfz22_0 := zF BK176.out 0
            have hfz22_1 := zF BK176.out 1
            have hfz22_2 := zF BK176.out 2
            have hfz22_3 := zF BK176.out 3
            go_wp2
            go_ret
            exact ⟨by first | rfl | (simp [errW_none, errW_some] <;> rfl) | (simp [*, errW_none, errW_some] <;> rfl), by repeat (first | exact HB.out | apply zA | apply zB | apply zD | refine zJ ?_ GE176.out)⟩
           ·rw [if_neg c21] at H
            have c21b0 : decide (((rd_T116 l0 x10_1).f3) < (-2147483648)) = false := decide_eq_false c21
            clear c21
            by_cases c23 : ((rd_T116 l0 x10_1).f3) > 2147483647
            ·rw [if_pos c23] at H
             have c23b0 : decide (2147483647 < ((rd_T116 l0 x10_1).f3)) = true := decide_eq_true c23
             clear c23
             obtain rfl := Option.some.inj H
             have hcz24_0 : wc.cell? ⟨gb176, 0, none⟩ = some (.int .i64 ((rd_T116 l0 x10_1).f0)) := (zC BK176.out 0).trans rfl
             have hcz24_1 : wc.cell? ⟨gb176, 1, none⟩ = some (.int .i64 ((rd_T116 l0 x10_1).f1)) := (zC BK176.out 1).trans rfl
             have hcz24_2 : wc.cell? ⟨gb176, 2, none⟩ = some (.string ((rd_T116 l0 x10_1).f2)) := (zC BK176.out 2).trans rfl
             have hcz24_3 : wc.cell? ⟨gb176, 3, none⟩ = some (.int .i64 ((rd_T116 l0 x10_1).f3)) := (zC BK176.out 3).trans rfl
             have hfz24_0 := zF BK176.out 0
             have hfz24_1 := zF BK176.out 1
             have hfz24_2 := zF BK176.out 2
             have hfz24_3 := zF BK176.out 3
             go_wp2
             go_ret
             exact ⟨by first | rfl | (simp [errW_none, errW_some] <;> rfl) | (simp [*, errW_none, errW_some] <;> rfl), by repeat (first | exact HB.out | apply zA | apply zB | apply zD | refine zJ ?_ GE176.out)⟩
            ·rw [if_neg c23] at H
             have c23b0 : decide (2147483647 < ((rd_T116 l0 x10_1).f3)) = false := decide_eq_false c23
             clear c23
             have H' := z4 H
             clear H
             have hcz25_0 : wc.cell? ⟨gb176, 0, none⟩ = some (.int .i64 ((rd_T116 l0 x10_1).f0)) := (zC BK176.out 0).trans rfl
             have hcz25_1 : wc.cell? ⟨gb176, 1, none⟩ = some (.int .i64 ((rd_T116 l0 x10_1).f1)) := (zC BK176.out 1).trans rfl
             have hcz25_2 : wc.cell? ⟨gb176, 2, none⟩ = some (.string ((rd_T116 l0 x10_1).f2)) := (zC BK176.out 2).trans rfl
             have hcz25_3 : wc.cell? ⟨gb176, 3, none⟩ = some (.int .i64 ((rd_T116 l0 x10_1).f3)) := (zC BK176.out 3).trans rfl
             have hfz25_0 := zF BK176.out 0
             have hfz25_1 := zF BK176.out 1
             have hfz25_2 := zF BK176.out 2
             have hfz25_3 := zF BK176.out 3
             go_wp2
             go_roundg kj5
             case measure => have := HK1.out; have := HJ5.out; omega
             case rel => exact ⟨(wrap64 (((rd_T116 l0 x10_1).f0) + 4)), (wrap64 (x10_1 + 1)), (by first | rfl | (simp; done) | (simp [*]; done)), (by first | rfl | (simp; done) | (simp [*]; done)), H', ⟨by have := HK1.out; have := HJ5.out; omega⟩, ⟨by repeat (first | exact HB.out | apply zA | apply zB | apply zD | refine zJ ?_ GE176.out)⟩⟩
          ·rw [if_neg c20] at H
           have c20b0 : (((rd_T116 l0 x10_1).f1) == 2) = false := z7 c20
           have c20b1 : (((rd_T116 l0 x10_1).f1) != 2) = true := bne_iff_ne.mpr c20
           obtain rfl := Option.some.inj H
           have hcz26_0 : wc.cell? ⟨gb176, 0, none⟩ = some (.int .i64 ((rd_T116 l0 x10_1).f0)) := (zC BK176.out 0).trans rfl
           have hcz26_1 : wc.cell? ⟨gb176, 1, none⟩ = some (.int .i64 ((rd_T116 l0 x10_1).f1)) := (zC BK176.out 1).trans rfl
           have hcz26_2 : wc.cell? ⟨gb176, 2, none⟩ = some (.string ((rd_T116 l0 x10_1).f2)) := (zC BK176.out 2).trans rfl
           have hcz26_3 : wc.cell? ⟨gb176, 3, none⟩ = some (.int .i64 ((rd_T116 l0 x10_1).f3)) := (zC BK176.out 3).trans rfl
           have hfz26_0 := zF BK176.out 0
           have hfz26_1 := zF BK176.out 1
           have hfz26_2 := zF BK176.out 2
           have hfz26_3 := zF BK176.out 3
           go_wp2
           go_ret
           exact ⟨by first | rfl | (simp [errW_none, errW_some] <;> rfl) | (simp [*, errW_none, errW_some] <;> rfl), by repeat (first | exact HB.out | apply zA | apply zB | apply zD | refine zJ ?_ GE176.out)⟩
     ·rw [if_neg c5] at H
      exact absurd H (by simp)
    ·rw [if_neg c4] at H
     exact absurd H (by simp)
   ·rw [if_neg c3] at H
    have c3b0 : decide (x10_1 < (l0.length : Int)) = false := decide_eq_false c3
    clear c3
    obtain rfl := Option.some.inj H
    go_wp2
    go_ret
    exact ⟨by first | rfl | (simp [errW_none, errW_some] <;> rfl) | (simp [*, errW_none, errW_some] <;> rfl), by repeat (first | exact HB.out | apply zA | apply zB | apply zD)⟩
def objf_Check.f (k : Nat) (a0_0 : ByteArray) (l0_1 : List Int) (l0_2 : List (S68)) (l0_3 : List (S116)) : Option (Int) := if (a0_0.size : Int) > 65536 then (some 1) else (if (l0_1.length : Int) > 4096 then (some 1) else ((objf_symbols.f l0_2 (a0_0.size : Int) (l0_1.length : Int)).bind fun t179 => (if t179 = true then ((objf_relocations.f k l0_3 (a0_0.size : Int)).bind fun t180 => (if t180 = true then (some 0) else (some 1))) else (some 1))))
set_option maxHeartbeats 8000000 in
set_option maxRecDepth 100000 in
theorem objf_Check.calls (k : Nat) (a0_0 : ByteArray) (A0_1 : Option Addr) (c0_1 : Nat) (l0_1 : List Int) (A0_2 : Option Addr) (c0_2 : Nat) (l0_2 : List (S68)) (A0_3 : Option Addr) (c0_3 : Nat) (l0_3 : List (S116)) (r : Int) (w : World) (hr0_1 : Kd.C (Kd.int .i64) w A0_1 l0_1.length l0_1) (hc0_1 : l0_1.length ≤ c0_1) (hr0_2 : Kd.C k68 w A0_2 l0_2.length l0_2) (hc0_2 : l0_2.length ≤ c0_2) (hr0_3 : Kd.C k116 w A0_3 l0_3.length l0_3) (hc0_3 : l0_3.length ≤ c0_3) (h : objf_Check.f k a0_0 l0_1 l0_2 l0_3 = some r) :
 Calls Tryd.prog 31 #[.agg #[.string a0_0, .slice A0_1 l0_1.length c0_1, .slice A0_2 l0_2.length c0_2, .slice A0_3 l0_3.length c0_3]] w fun e w' => e = .returned (.int .i64 r) ∧ Below w.heap.size w w' := by
 have hu74 := Tryd.underlying74
 have HR0_1 := z4 hr0_1
 have HC0_1 := z4 hc0_1
 clear hr0_1 hc0_1
 have HR0_2 := z4 hr0_2
 have HC0_2 := z4 hc0_2
 clear hr0_2 hc0_2
 have HR0_3 := z4 hr0_3
 have HC0_3 := z4 hc0_3
 clear hr0_3 hc0_3
 have HB := z4 (Below.refl w.heap.size w)
 have H : (if (a0_0.size : Int) > 65536 then (some 1) else (if (l0_1.length : Int) > 4096 then (some 1) else ((objf_symbols.f l0_2 (a0_0.size : Int) (l0_1.length : Int)).bind fun t179 => (if t179 = true then ((objf_relocations.f k l0_3 (a0_0.size : Int)).bind fun t180 => (if t180 = true then (some 0) else (some 1))) else (some 1))))) = some r := h
 clear h
 by_cases c2 : (a0_0.size : Int) > 65536
 ·rw [if_pos c2] at H
  have c2b0 : decide (65536 < (a0_0.size : Int)) = true := decide_eq_true c2
  have c2b1 : decide (65536 < a0_0.size) = true := decide_eq_true (by omega)
  clear c2
  obtain rfl := Option.some.inj H
  go_enter Tryd.func31, Tryd.ntmps31
  go_wp2_with (first | ((with_reducible refine gate_dst (N := 1) rfl ?_); (try (refine gate_guard (by rfl) ?_; dsimp only)); refine box_event ?hg (N := 1) ?hd (cs := #[.string a0_0, .slice A0_1 l0_1.length c0_1, .slice A0_2 l0_2.length c0_2, .slice A0_3 l0_3.length c0_3]) (t := 74) ?hr ?_; (case hd => rfl); (case hg => rfl); (case hr => first | (go_simp; done) | (go_simp; rfl)); intro gb178 hg w3 hbox hb; have n0_ := z4 (zK (by repeat (first | exact HB.out | apply zA | apply zB | apply zD)) hb); have n1_ := z4 (hbox); have n2_ := z4 ((by rw [hg]; exact (zL (by repeat (first | exact HB.out | apply zA | apply zB | apply zD))) : w.heap.size ≤ gb178)); have n3_ := z4 ((by rw [hg]; exact (zL (by repeat (first | exact HB.out | apply zA | apply zB | apply zD))) : w.heap.size ≤ gb178)); clear HB; have HB := n0_; have BK178 := n1_; have GW178 := n2_; have GE178 := n3_; clear n0_ n1_ n2_ n3_; clear hb hbox hg; have hcz4_0 : w3.cell? ⟨gb178, 0, none⟩ = some (.string a0_0) := (zC BK178.out 0).trans rfl; have hcz4_1 : w3.cell? ⟨gb178, 1, none⟩ = some (.slice A0_1 l0_1.length c0_1) := (zC BK178.out 1).trans rfl; have hcz4_2 : w3.cell? ⟨gb178, 2, none⟩ = some (.slice A0_2 l0_2.length c0_2) := (zC BK178.out 2).trans rfl; have hcz4_3 : w3.cell? ⟨gb178, 3, none⟩ = some (.slice A0_3 l0_3.length c0_3) := (zC BK178.out 3).trans rfl; have hfz4_0 := zF BK178.out 0; have hfz4_1 := zF BK178.out 1; have hfz4_2 := zF BK178.out 2; have hfz4_3 := zF BK178.out 3))
  go_ret
  exact ⟨by first | rfl | (simp [errW_none, errW_some] <;> rfl) | (simp [*, errW_none, errW_some] <;> rfl), by repeat (first | exact HB.out | apply zA | apply zB | apply zD | refine zJ ?_ GE178.out)⟩
 ·rw [if_neg c2] at H
  have c2b0 : decide (65536 < (a0_0.size : Int)) = false := decide_eq_false c2
  have c2b1 : decide (65536 < a0_0.size) = false := decide_eq_false (by omega)
  clear c2
  by_cases c5 : (l0_1.length : Int) > 4096
  ·rw [if_pos c5] at H
   have c5b0 : decide (4096 < (l0_1.length : Int)) = true := decide_eq_true c5
   have c5b1 : decide (4096 < l0_1.length) = true := decide_eq_true (by omega)
   clear c5
   obtain rfl := Option.some.inj H
   go_enter Tryd.func31, Tryd.ntmps31
   go_wp2_with (first | ((with_reducible refine gate_dst (N := 1) rfl ?_); (try (refine gate_guard (by rfl) ?_; dsimp only)); refine box_event ?hg (N := 1) ?hd (cs := #[.string a0_0, .slice A0_1 l0_1.length c0_1, .slice A0_2 l0_2.length c0_2, .slice A0_3 l0_3.length c0_3]) (t := 74) ?hr ?_; (case hd => rfl); (case hg => rfl); (case hr => first | (go_simp; done) | (go_simp; rfl)); intro gb178 hg w6 hbox hb; have n0_ := z4 (zK (by repeat (first | exact HB.out | apply zA | apply zB | apply zD)) hb); have n1_ := z4 (hbox); have n2_ := z4 ((by rw [hg]; exact (zL (by repeat (first | exact HB.out | apply zA | apply zB | apply zD))) : w.heap.size ≤ gb178)); have n3_ := z4 ((by rw [hg]; exact (zL (by repeat (first | exact HB.out | apply zA | apply zB | apply zD))) : w.heap.size ≤ gb178)); clear HB; have HB := n0_; have BK178 := n1_; have GW178 := n2_; have GE178 := n3_; clear n0_ n1_ n2_ n3_; clear hb hbox hg; have hcz7_0 : w6.cell? ⟨gb178, 0, none⟩ = some (.string a0_0) := (zC BK178.out 0).trans rfl; have hcz7_1 : w6.cell? ⟨gb178, 1, none⟩ = some (.slice A0_1 l0_1.length c0_1) := (zC BK178.out 1).trans rfl; have hcz7_2 : w6.cell? ⟨gb178, 2, none⟩ = some (.slice A0_2 l0_2.length c0_2) := (zC BK178.out 2).trans rfl; have hcz7_3 : w6.cell? ⟨gb178, 3, none⟩ = some (.slice A0_3 l0_3.length c0_3) := (zC BK178.out 3).trans rfl; have hfz7_0 := zF BK178.out 0; have hfz7_1 := zF BK178.out 1; have hfz7_2 := zF BK178.out 2; have hfz7_3 := zF BK178.out 3))
   go_ret
   exact ⟨by first | rfl | (simp [errW_none, errW_some] <;> rfl) | (simp [*, errW_none, errW_some] <;> rfl), by repeat (first | exact HB.out | apply zA | apply zB | apply zD | refine zJ ?_ GE178.out)⟩
  ·rw [if_neg c5] at H
   have c5b0 : decide (4096 < (l0_1.length : Int)) = false := decide_eq_false c5
   have c5b1 : decide (4096 < l0_1.length) = false := decide_eq_false (by omega)
   clear c5
   replace H := z8 H
   obtain ⟨t179, A80, H⟩ := H
   replace H : (if t179 = true then ((objf_relocations.f k l0_3 (a0_0.size : Int)).bind fun t180 => (if t180 = true then (some 0) else (some 1))) else (some 1)) = some r := H
   have A8 := z4 A80
   clear A80
   by_cases c9 : t179 = true
   ·subst c9
    have H1 : ((objf_relocations.f k l0_3 (a0_0.size : Int)).bind fun t180 => (if t180 = true then (some 0) else (some 1))) = some r := by rw [if_pos rfl] at H; exact H
    clear H
    have H := H1
    clear H1
    replace H := z8 H
    obtain ⟨t180, A100, H⟩ := H
    replace H : (if t180 = true then (some 0) else (some 1)) = some r := H
    have A10 := z4 A100
    clear A100
    by_cases c11 : t180 = true
    ·subst c11
     have H1 : (some 0) = some r := by rw [if_pos rfl] at H; exact H
     clear H
     have H := H1
     clear H1
     obtain rfl := Option.some.inj H
     go_enter Tryd.func31, Tryd.ntmps31
     go_wp2_with (first | ((with_reducible refine gate_dst (N := 1) rfl ?_); (try (refine gate_guard (by rfl) ?_; dsimp only)); refine box_event ?hg (N := 1) ?hd (cs := #[.string a0_0, .slice A0_1 l0_1.length c0_1, .slice A0_2 l0_2.length c0_2, .slice A0_3 l0_3.length c0_3]) (t := 74) ?hr ?_; (case hd => rfl); (case hg => rfl); (case hr => first | (go_simp; done) | (go_simp; rfl)); intro gb178 hg w12 hbox hb; have n0_ := z4 (zK (by repeat (first | exact HB.out | apply zA | apply zB | apply zD)) hb); have n1_ := z4 (hbox); have n2_ := z4 ((by rw [hg]; exact (zL (by repeat (first | exact HB.out | apply zA | apply zB | apply zD))) : w.heap.size ≤ gb178)); have n3_ := z4 ((by rw [hg]; exact (zL (by repeat (first | exact HB.out | apply zA | apply zB | apply zD))) : w.heap.size ≤ gb178)); clear HB; have HB := n0_; have BK178 := n1_; have GW178 := n2_; have GE178 := n3_; clear n0_ n1_ n2_ n3_; clear hb hbox hg; have hcz13_0 : w12.cell? ⟨gb178, 0, none⟩ = some (.string a0_0) := (zC BK178.out 0).trans rfl; have hcz13_1 : w12.cell? ⟨gb178, 1, none⟩ = some (.slice A0_1 l0_1.length c0_1) := (zC BK178.out 1).trans rfl; have hcz13_2 : w12.cell? ⟨gb178, 2, none⟩ = some (.slice A0_2 l0_2.length c0_2) := (zC BK178.out 2).trans rfl; have hcz13_3 : w12.cell? ⟨gb178, 3, none⟩ = some (.slice A0_3 l0_3.length c0_3) := (zC BK178.out 3).trans rfl; have hfz13_0 := zF BK178.out 0; have hfz13_1 := zF BK178.out 1; have hfz13_2 := zF BK178.out 2; have hfz13_3 := zF BK178.out 3) | (go_at_call 50; (with_reducible refine (objf_symbols.calls _ _ l0_2 (a0_0.size : Int) (l0_1.length : Int) true _ ?side1 ?side2 A8.out).mono ?_); (case side1 => repeat (first | exact (zS HR0_2.out HB.out) | (with_reducible refine zP ?_ _) | (with_reducible refine zQ ?_ _) | (with_reducible refine zR ?_))); (case side2 => exact HC0_2.out); rintro e w14 ⟨rfl, hb⟩; have n0_ := z4 (blk_below (g := gb178) (o := .cells #[.string a0_0, .slice A0_1 l0_1.length c0_1, .slice A0_2 l0_2.length c0_2, .slice A0_3 l0_3.length c0_3] 74 (0, 0)) (by (with_reducible repeat (first | refine zH ?_ _ | refine zI ?_ | refine zG ?_ _)); exact BK178.out) hb); have n1_ := z4 (zK (by repeat (first | exact HB.out | apply zA | apply zB | apply zD | refine zJ ?_ GE178.out)) hb); clear BK178; clear HB; have BK178 := n0_; have HB := n1_; clear n0_ n1_; (try clear hb); (try clear hb2); (try clear hk); (try clear hi); have hcz15_0 : w14.cell? ⟨gb178, 0, none⟩ = some (.string a0_0) := (zC BK178.out 0).trans rfl; have hcz15_1 : w14.cell? ⟨gb178, 1, none⟩ = some (.slice A0_1 l0_1.length c0_1) := (zC BK178.out 1).trans rfl; have hcz15_2 : w14.cell? ⟨gb178, 2, none⟩ = some (.slice A0_2 l0_2.length c0_2) := (zC BK178.out 2).trans rfl; have hcz15_3 : w14.cell? ⟨gb178, 3, none⟩ = some (.slice A0_3 l0_3.length c0_3) := (zC BK178.out 3).trans rfl; have hfz15_0 := zF BK178.out 0; have hfz15_1 := zF BK178.out 1; have hfz15_2 := zF BK178.out 2; have hfz15_3 := zF BK178.out 3) | (go_at_call 51; (with_reducible refine (objf_relocations.calls k _ _ l0_3 (a0_0.size : Int) true _ ?side1 ?side2 A10.out).mono ?_); (case side1 => repeat (first | exact (zS HR0_3.out HB.out) | (with_reducible refine zP ?_ _) | (with_reducible refine zQ ?_ _) | (with_reducible refine zR ?_))); (case side2 => exact HC0_3.out); rintro e w16 ⟨rfl, hb⟩; have n0_ := z4 (blk_below (g := gb178) (o := .cells #[.string a0_0, .slice A0_1 l0_1.length c0_1, .slice A0_2 l0_2.length c0_2, .slice A0_3 l0_3.length c0_3] 74 (0, 0)) (by (with_reducible repeat (first | refine zH ?_ _ | refine zI ?_ | refine zG ?_ _)); exact BK178.out) hb); have n1_ := z4 (zK (by repeat (first | exact HB.out | apply zA | apply zB | apply zD | refine zJ ?_ GE178.out)) hb); clear BK178; clear HB; have BK178 := n0_; have HB := n1_; clear n0_ n1_; (try clear hb); (try clear hb2); (try clear hk); (try clear hi)))
     go_ret
     exact ⟨by first | rfl | (simp [errW_none, errW_some] <;> rfl) | (simp [*, errW_none, errW_some] <;> rfl), by repeat (first | exact HB.out | apply zA | apply zB | apply zD | refine zJ ?_ GE178.out)⟩
    ·replace c11 := Bool.eq_false_iff.mpr c11
     subst c11
     have H1 : (some 1) = some r := by rw [if_neg (show ¬ (false = true) by decide)] at H; exact H
     clear H
     have H := H1
     clear H1
     obtain rfl := Option.some.inj H
     go_enter Tryd.func31, Tryd.ntmps31
     go_wp2_with (first | ((with_reducible refine gate_dst (N := 1) rfl ?_); (try (refine gate_guard (by rfl) ?_; dsimp only)); refine box_event ?hg (N := 1) ?hd (cs := #[.string a0_0, .slice A0_1 l0_1.length c0_1, .slice A0_2 l0_2.length c0_2, .slice A0_3 l0_3.length c0_3]) (t := 74) ?hr ?_; (case hd => rfl); (case hg => rfl); (case hr => first | (go_simp; done) | (go_simp; rfl)); intro gb178 hg w17 hbox hb; have n0_ := z4 (zK (by repeat (first | exact HB.out | apply zA | apply zB | apply zD)) hb); have n1_ := z4 (hbox); have n2_ := z4 ((by rw [hg]; exact (zL (by repeat (first | exact HB.out | apply zA | apply zB | apply zD))) : w.heap.size ≤ gb178)); have n3_ := z4 ((by rw [hg]; exact (zL (by repeat (first | exact HB.out | apply zA | apply zB | apply zD))) : w.heap.size ≤ gb178)); clear HB; have HB := n0_; have BK178 := n1_; have GW178 := n2_; have GE178 := n3_; clear n0_ n1_ n2_ n3_; clear hb hbox hg; have hcz18_0 : w17.cell? ⟨gb178, 0, none⟩ = some (.string a0_0) := (zC BK178.out 0).trans rfl; have hcz18_1 : w17.cell? ⟨gb178, 1, none⟩ = some (.slice A0_1 l0_1.length c0_1) := (zC BK178.out 1).trans rfl; have hcz18_2 : w17.cell? ⟨gb178, 2, none⟩ = some (.slice A0_2 l0_2.length c0_2) := (zC BK178.out 2).trans rfl; have hcz18_3 : w17.cell? ⟨gb178, 3, none⟩ = some (.slice A0_3 l0_3.length c0_3) := (zC BK178.out 3).trans rfl; have hfz18_0 := zF BK178.out 0; have hfz18_1 := zF BK178.out 1; have hfz18_2 := zF BK178.out 2; have hfz18_3 := zF BK178.out 3) | (go_at_call 50; (with_reducible refine (objf_symbols.calls _ _ l0_2 (a0_0.size : Int) (l0_1.length : Int) true _ ?side1 ?side2 A8.out).mono ?_); (case side1 => repeat (first | exact (zS HR0_2.out HB.out) | (with_reducible refine zP ?_ _) | (with_reducible refine zQ ?_ _) | (with_reducible refine zR ?_))); (case side2 => exact HC0_2.out); rintro e w19 ⟨rfl, hb⟩; have n0_ := z4 (blk_below (g := gb178) (o := .cells #[.string a0_0, .slice A0_1 l0_1.length c0_1, .slice A0_2 l0_2.length c0_2, .slice A0_3 l0_3.length c0_3] 74 (0, 0)) (by (with_reducible repeat (first | refine zH ?_ _ | refine zI ?_ | refine zG ?_ _)); exact BK178.out) hb); have n1_ := z4 (zK (by repeat (first | exact HB.out | apply zA | apply zB | apply zD | refine zJ ?_ GE178.out)) hb); clear BK178; clear HB; have BK178 := n0_; have HB := n1_; clear n0_ n1_; (try clear hb); (try clear hb2); (try clear hk); (try clear hi); have hcz20_0 : w19.cell? ⟨gb178, 0, none⟩ = some (.string a0_0) := (zC BK178.out 0).trans rfl; have hcz20_1 : w19.cell? ⟨gb178, 1, none⟩ = some (.slice A0_1 l0_1.length c0_1) := (zC BK178.out 1).trans rfl; have hcz20_2 : w19.cell? ⟨gb178, 2, none⟩ = some (.slice A0_2 l0_2.length c0_2) := (zC BK178.out 2).trans rfl; have hcz20_3 : w19.cell? ⟨gb178, 3, none⟩ = some (.slice A0_3 l0_3.length c0_3) := (zC BK178.out 3).trans rfl; have hfz20_0 := zF BK178.out 0; have hfz20_1 := zF BK178.out 1; have hfz20_2 := zF BK178.out 2; have hfz20_3 := zF BK178.out 3) | (go_at_call 51; (with_reducible refine (objf_relocations.calls k _ _ l0_3 (a0_0.size : Int) false _ ?side1 ?side2 A10.out).mono ?_); (case side1 => repeat (first | exact (zS HR0_3.out HB.out) | (with_reducible refine zP ?_ _) | (with_reducible refine zQ ?_ _) | (with_reducible refine zR ?_))); (case side2 => exact HC0_3.out); rintro e w21 ⟨rfl, hb⟩; have n0_ := z4 (blk_below (g := gb178) (o := .cells #[.string a0_0, .slice A0_1 l0_1.length c0_1, .slice A0_2 l0_2.length c0_2, .slice A0_3 l0_3.length c0_3] 74 (0, 0)) (by (with_reducible repeat (first | refine zH ?_ _ | refine zI ?_ | refine zG ?_ _)); exact BK178.out) hb); have n1_ := z4 (zK (by repeat (first | exact HB.out | apply zA | apply zB | apply zD | refine zJ ?_ GE178.out)) hb); clear BK178; clear HB; have BK178 := n0_; have HB := n1_; clear n0_ n1_; (try clear hb); (try clear hb2); (try clear hk); (try clear hi)))
     go_ret
     exact ⟨by first | rfl | (simp [errW_none, errW_some] <;> rfl) | (simp [*, errW_none, errW_some] <;> rfl), by repeat (first | exact HB.out | apply zA | apply zB | apply zD | refine zJ ?_ GE178.out)⟩
   ·replace c9 := Bool.eq_false_iff.mpr c9
    subst c9
    have H1 : (some 1) = some r := by rw [if_neg (show ¬ (false = true) by decide)] at H; exact H
    clear H
    have H := H1
    clear H1
    obtain rfl := Option.some.inj H
    go_enter Tryd.func31, Tryd.ntmps31
    go_wp2_with (first | ((with_reducible refine gate_dst (N := 1) rfl ?_); (try (refine gate_guard (by rfl) ?_; dsimp only)); refine box_event ?hg (N := 1) ?hd (cs := #[.string a0_0, .slice A0_1 l0_1.length c0_1, .slice A0_2 l0_2.length c0_2, .slice A0_3 l0_3.length c0_3]) (t := 74) ?hr ?_; (case hd => rfl); (case hg => rfl); (case hr => first | (go_simp; done) | (go_simp; rfl)); intro gb178 hg w22 hbox hb; have n0_ := z4 (zK (by repeat (first | exact HB.out | apply zA | apply zB | apply zD)) hb); have n1_ := z4 (hbox); have n2_ := z4 ((by rw [hg]; exact (zL (by repeat (first | exact HB.out | apply zA | apply zB | apply zD))) : w.heap.size ≤ gb178)); have n3_ := z4 ((by rw [hg]; exact (zL (by repeat (first | exact HB.out | apply zA | apply zB | apply zD))) : w.heap.size ≤ gb178)); clear HB; have HB := n0_; have BK178 := n1_; have GW178 := n2_; have GE178 := n3_; clear n0_ n1_ n2_ n3_; clear hb hbox hg; have hcz23_0 : w22.cell? ⟨gb178, 0, none⟩ = some (.string a0_0) := (zC BK178.out 0).trans rfl; have hcz23_1 : w22.cell? ⟨gb178, 1, none⟩ = some (.slice A0_1 l0_1.length c0_1) := (zC BK178.out 1).trans rfl; have hcz23_2 : w22.cell? ⟨gb178, 2, none⟩ = some (.slice A0_2 l0_2.length c0_2) := (zC BK178.out 2).trans rfl; have hcz23_3 : w22.cell? ⟨gb178, 3, none⟩ = some (.slice A0_3 l0_3.length c0_3) := (zC BK178.out 3).trans rfl; have hfz23_0 := zF BK178.out 0; have hfz23_1 := zF BK178.out 1; have hfz23_2 := zF BK178.out 2; have hfz23_3 := zF BK178.out 3) | (go_at_call 50; (with_reducible refine (objf_symbols.calls _ _ l0_2 (a0_0.size : Int) (l0_1.length : Int) false _ ?side1 ?side2 A8.out).mono ?_); (case side1 => repeat (first | exact (zS HR0_2.out HB.out) | (with_reducible refine zP ?_ _) | (with_reducible refine zQ ?_ _) | (with_reducible refine zR ?_))); (case side2 => exact HC0_2.out); rintro e w24 ⟨rfl, hb⟩; have n0_ := z4 (blk_below (g := gb178) (o := .cells #[.string a0_0, .slice A0_1 l0_1.length c0_1, .slice A0_2 l0_2.length c0_2, .slice A0_3 l0_3.length c0_3] 74 (0, 0)) (by (with_reducible repeat (first | refine zH ?_ _ | refine zI ?_ | refine zG ?_ _)); exact BK178.out) hb); have n1_ := z4 (zK (by repeat (first | exact HB.out | apply zA | apply zB | apply zD | refine zJ ?_ GE178.out)) hb); clear BK178; clear HB; have BK178 := n0_; have HB := n1_; clear n0_ n1_; (try clear hb); (try clear hb2); (try clear hk); (try clear hi)))
    go_ret
    exact ⟨by first | rfl | (simp [errW_none, errW_some] <;> rfl) | (simp [*, errW_none, errW_some] <;> rfl), by repeat (first | exact HB.out | apply zA | apply zB | apply zD | refine zJ ?_ GE178.out)⟩
end Go.Proofs.YtimhcpmfhebbhaaDoor.M
namespace Go.Proofs.YtimhcpmfhebbhaaDoor.Obj
set_option maxRecDepth 100000
open Go.RowKit Go.Proofs.YtimhcpmfhebbhaaDoor.M Go.Proofs.YtimhcpmfhebbhaaDoor.Num Go.Proofs.YtimhcpmfhebbhaaDoorW.PrintWords Go.Proofs.YtimhcpmfhebbhaaDoorW.PrintLast
def named (s : ByteArray) : Prop := 0 < s.size ∧ s.size ≤ 28
instance (s : ByteArray) : Decidable (named s) := by unfold named; exact inferInstance
def relGood (code free : Int) (r : S116) : Prop :=
 named r.f2 ∧ free ≤ r.f0 ∧ r.f0 ≤ code - 4 ∧ ((r.f1 = 1 ∧ r.f3 = 0) ∨ (r.f1 = 2 ∧ -2147483648 ≤ r.f3 ∧ r.f3 ≤ 2147483647))
instance (code free : Int) (r : S116) : Decidable (relGood code free r) := by unfold relGood; exact inferInstance
def relsOk (code : Int) : Int → List S116 → Bool
 | _, [] => true
 | free, r :: rs => decide (relGood code free r) && relsOk code (r.f0 + 4) rs
def symsOk (code data : Int) (l : List S68) : Bool := l.all (symGood code data) && decide (M.distinct (symNames l) = l.length) && decide (l.length ≤ 1000)
/-- May an object be? -/
def may (code : ByteArray) (data : List Int) (syms : List S68) (rels : List S116) : Bool :=
 decide (code.size ≤ 65536) && decide (data.length ≤ 4096) && symsOk code.size data.length syms && relsOk code.size 0 rels && decide (rels.length ≤ 8000)
theorem rd_SR (l : List S116) (i : Nat) (h : i < l.length) : rd_T116 l (i : Int) = l[i] := by
 simp [rd_T116, List.getD_eq_getElem?_getD, List.getElem?_eq_getElem h]
theorem isName_f (s : ByteArray) : objf_isName.f s = some (decide (named s)) := by
 unfold objf_isName.f
 by_cases h : (s.size : Int) > 0
 ·rw [if_pos h]
  congr 1
  exact decide_eq_decide.mpr ⟨fun h' => ⟨by omega, by omega⟩, fun h' => by have := h'.2; omega⟩
 ·rw [if_neg h]
  congr 1
  exact (decide_eq_false (fun h' : named s => h (by have := h'.1; omega))).symm
theorem rel_l0 (l : List S116) (code : Int) (h0 : 0 ≤ code) (h1 : code ≤ 65536) (hm : l.length ≤ 9223372036854775807) : ∀ (d k i : Nat) (free : Int), l.length - i = d → i ≤ l.length → 0 ≤ free → 2 * d + 1 < k →
 objf_relocations.l0 k l code free l (l.length : Int) (i : Int) = some (relsOk code free (l.drop i) && decide (l.length ≤ 8000)) := by
 intro d
 induction d with
 | zero =>
  intro k i free hd hi hf hk
  obtain ⟨k, rfl⟩ : ∃ m, k = m + 1 := ⟨k - 1, by omega⟩
  obtain rfl : i = l.length := by omega
  simp only [objf_relocations.l0]
  rw [if_neg (by omega), List.drop_length]
  simp only [relsOk, Bool.true_and]
  congr 1
  rw [Bool.eq_iff_iff]
  simp
  omega
 | succ d ih =>
  intro k i free hd hi hf hk
  obtain ⟨k, rfl⟩ : ∃ m, k = m + 2 := ⟨k - 2, by omega⟩
  have hlt : i < l.length := by omega
  have hs := ih k (i + 1)
  have hw : wrap64 ((i : Int) + 1) = ((i + 1 : Nat) : Int) := by unfold wrap64; omega
  have hw4 : wrap64 (code - 4) = code - 4 := by unfold wrap64; omega
  simp only [objf_relocations.l0]
  rw [if_pos (by omega), if_pos (by omega), if_pos (by omega), rd_SR l i hlt, List.drop_eq_getElem_cons hlt]
  generalize l[i] = r
  obtain ⟨f0, f1, f2, f3⟩ := r
  simp only [isName_f, Option.bind_some, relsOk, relGood]
  by_cases hn : named f2
  ·simp only [hn, decide_true, if_true, hw4, true_and]
   by_cases c1 : f0 < free
   ·rw [if_pos c1]
    simp only [objf_relocations.j1, if_true]
    simp [show ¬ free ≤ f0 by omega]
   ·rw [if_neg c1]
    by_cases c2 : f0 > code - 4
    ·simp only [objf_relocations.j1, c2, decide_true, if_true]
     simp [show ¬ f0 ≤ code - 4 by omega]
    ·have hw0 : wrap64 (f0 + 4) = f0 + 4 := by unfold wrap64; omega
     have hs' := hs (f0 + 4) (by omega) (by omega) (by omega) (by omega)
     simp only [objf_relocations.j1, c2, decide_false, hw, hw0, hs']
     simp only [show free ≤ f0 by omega, show f0 ≤ code - 4 by omega, true_and]
     by_cases k1 : f1 = 1
     ·subst k1
      by_cases a0 : f3 = 0
      ·simp [a0]
      ·simp [a0]
     ·by_cases k2 : f1 = 2
      ·subst k2
       by_cases a1 : f3 < -2147483648
       ·simp [a1, show ¬ (-2147483648 ≤ f3) by omega]
       ·by_cases a2 : f3 > 2147483647
        ·simp [a1, a2, show ¬ (f3 ≤ 2147483647) by omega]
        ·simp [a1, a2, show (-2147483648 ≤ f3) by omega, show (f3 ≤ 2147483647) by omega]
      ·simp [k1, k2]
  ·simp only [hn, decide_false, objf_relocations.j1, if_true]
   simp
theorem relocations_f (l : List S116) (code : Int) (h0 : 0 ≤ code) (h1 : code ≤ 65536) (hm : l.length ≤ 9223372036854775807) (k : Nat) (hk : 2 * l.length + 1 < k) :
 objf_relocations.f k l code = some (relsOk code 0 l && decide (l.length ≤ 8000)) := by
 unfold objf_relocations.f
 have := rel_l0 l code h0 h1 hm l.length k 0 0 (by omega) (by omega) (by omega) hk
 simpa using this
theorem check_f (code : ByteArray) (data : List Int) (syms : List S68) (rels : List S116) (hm : rels.length ≤ 9223372036854775807) (k : Nat) (hk : 2 * rels.length + 1 < k) :
 objf_Check.f k code data syms rels = some (if may code data syms rels = true then 0 else 1) := by
 unfold objf_Check.f may symsOk
 by_cases c1 : (code.size : Int) > 65536
 ·rw [if_pos c1]
  simp [show ¬ code.size ≤ 65536 by omega]
 rw [if_neg c1]
 by_cases c2 : (data.length : Int) > 4096
 ·rw [if_pos c2]
  simp [show ¬ data.length ≤ 4096 by omega]
 rw [if_neg c2]
 unfold objf_symbols.f
 simp only [Option.bind_some, show code.size ≤ 65536 by omega, show data.length ≤ 4096 by omega, decide_true, Bool.true_and]
 by_cases c3 : (syms.all (symGood (code.size : Int) (data.length : Int)) && decide (M.distinct (symNames syms) = syms.length) && decide (syms.length ≤ 1000)) = true
 ·rw [if_pos c3, relocations_f rels _ (by omega) (by omega) hm k hk]
  simp only [c3, Bool.true_and, Option.bind_some]
  cases relsOk (code.size : Int) 0 rels <;> by_cases c4 : rels.length ≤ 8000 <;> simp [c4]
 ·rw [if_neg c3]
  simp [Bool.eq_false_iff.mpr c3]
end Go.Proofs.YtimhcpmfhebbhaaDoor.Obj
namespace Go.Proofs.YtimhcpmfhebbhaaDoor.Seven
open Go.RowKit Go.Proofs.YtimhcpmfhebbhaaDoor.Num Go.Proofs.YtimhcpmfhebbhaaDoorW.PrintWords
/-- All of them are bytes. -/
def Bs (l : List Int) : Prop := ∀ x ∈ l, 0 ≤ x ∧ x < 256
theorem Bs.nil : Bs [] := fun _ h => by cases h
theorem Bs.cons {b : Int} {l : List Int} (h0 : 0 ≤ b) (h1 : b < 256) (h : Bs l) : Bs (b :: l) := by
 intro x hx
 rcases List.mem_cons.1 hx with rfl | hx
 ·exact ⟨h0, h1⟩
 ·exact h x hx
theorem Bs.append {a b : List Int} (ha : Bs a) (hb : Bs b) : Bs (a ++ b) := by
 intro x hx
 rcases List.mem_append.1 hx with hx | hx
 ·exact ha x hx
 ·exact hb x hx
theorem Bs.left {a b : List Int} (h : Bs (a ++ b)) : Bs a := fun x hx => h x (List.mem_append_left _ hx)
theorem Bs.right {a b : List Int} (h : Bs (a ++ b)) : Bs b := fun x hx => h x (List.mem_append_right _ hx)
theorem Bs.drop {a : List Int} (h : Bs a) (n : Nat) : Bs (a.drop n) := fun x hx => h x (List.mem_of_mem_drop hx)
theorem Bs.take {a : List Int} (h : Bs a) (n : Nat) : Bs (a.take n) := fun x hx => h x (List.mem_of_mem_take hx)
theorem bytesOf_Bs (s : ByteArray) : Bs (bytesOf s) := by
 intro x hx
 obtain ⟨b, _, rfl⟩ := List.mem_map.1 hx
 have := b.toNat_lt
 omega
theorem ofNat_toNat {x : Int} (h0 : 0 ≤ x) (h1 : x < 256) : ((UInt8.ofNat x.toNat).toNat : Int) = x := by
 rw [UInt8.toNat_ofNat']
 omega
theorem bytesOf_str {l : List Int} (h : Bs l) : bytesOf (strOfNums l) = l := by
 unfold bytesOf
 rw [strOfNums_data, List.map_map]
 conv => rhs; rw [← List.map_id l]
 refine List.map_congr_left fun x hx => ?_
 exact ofNat_toNat (h x hx).1 (h x hx).2
theorem str_bytesOf (s : ByteArray) : strOfNums (bytesOf s) = s := by
 have h : (strOfNums (bytesOf s)).data.toList = s.data.toList := by
  rw [strOfNums_data, bytesOf, List.map_map]
  conv => rhs; rw [← List.map_id s.data.toList]
  refine List.map_congr_left fun x _ => ?_
  simp
 have h2 : (strOfNums (bytesOf s)).data = s.data := Array.toList_inj.1 h
 cases s
 cases hs : strOfNums (bytesOf _)
 rw [hs] at h2
 simp only at h2
 rw [h2]
theorem bytesOf_inj {s t : ByteArray} (h : bytesOf s = bytesOf t) : s = t := by
 rw [← str_bytesOf s, h, str_bytesOf]
theorem bytesOf_append (s t : ByteArray) : bytesOf (s ++ t) = bytesOf s ++ bytesOf t := by
 unfold bytesOf
 rw [ByteArray.data_append, Array.toList_append, List.map_append]
theorem str_append (a b : List Int) : strOfNums a ++ strOfNums b = strOfNums (a ++ b) := by
 have h : (strOfNums a ++ strOfNums b).data = (strOfNums (a ++ b)).data := by
  rw [ByteArray.data_append]
  simp [strOfNums]
 cases h1 : strOfNums a ++ strOfNums b
 cases h2 : strOfNums (a ++ b)
 rw [h1, h2] at h
 simp only at h
 rw [h]
theorem bt_drop (s : ByteArray) (j : Nat) (h : j < s.size) : (bytesOf s).drop j = bt s j :: (bytesOf s).drop (j + 1) := by
 have hl : j < (bytesOf s).length := by rw [bytesOf_length]; exact h
 rw [List.drop_eq_getElem_cons hl, ← rd_bytesOf]
 unfold rd
 rw [Int.toNat_natCast, List.getD_eq_getElem?_getD, List.getElem?_eq_getElem hl]
 rfl
def putL (u : Nat) : List Int := if u < 128 then [(u : Int)] else ((u % 128 + 128 : Nat) : Int) :: putL (u / 128)
termination_by u
decreasing_by omega
theorem putL_small {u : Nat} (h : u < 128) : putL u = [(u : Int)] := by rw [putL, if_pos h]
theorem putL_great {u : Nat} (h : ¬ u < 128) : putL u = ((u % 128 + 128 : Nat) : Int) :: putL (u / 128) := by rw [putL, if_neg h]
theorem putL_Bs : ∀ (n u : Nat), u ≤ n → Bs (putL u) := by
 intro n
 induction n with
 | zero => intro u h; rw [putL_small (by omega)]; exact Bs.nil.cons (by omega) (by omega) |> fun h => h
 | succ n ih =>
  intro u h
  by_cases hu : u < 128
  ·rw [putL_small hu]; exact Bs.nil.cons (by omega) (by omega)
  ·rw [putL_great hu]; exact (ih _ (by omega)).cons (by omega) (by omega)
theorem putL_bs (u : Nat) : Bs (putL u) := putL_Bs u u (Nat.le_refl _)
theorem putL_len : ∀ (n u : Nat), u < 128 ^ n → (putL u).length ≤ n ∨ n = 0 := by
 intro n
 induction n with
 | zero => intro u _; exact .inr rfl
 | succ n ih =>
  intro u h
  left
  by_cases hu : u < 128
  ·rw [putL_small hu]; simp
  ·rw [putL_great hu]
   have h2 : u / 128 < 128 ^ n := by rw [Nat.div_lt_iff_lt_mul (by decide)]; rw [Nat.pow_succ] at h; exact h
   rcases ih _ h2 with h3 | h3
   ·simp; exact h3
   ·subst h3; simp at h; omega
theorem putL_pos (u : Nat) : 0 < (putL u).length := by
 by_cases hu : u < 128
 ·rw [putL_small hu]; simp
 ·rw [putL_great hu]; simp
theorem putL_ten {u : Nat} (h : u < 18446744073709551616) : (putL u).length ≤ 10 := by
 have : u < 128 ^ 10 := by omega
 rcases putL_len 10 u this with h | h
 ·exact h
 ·cases h
/-- Reads a number in groups of seven bits, from its group number i on: what it is worth, and how many groups. -/
def takeL : List Int → Nat → Option (Int × Nat)
 | [], _ => none
 | b :: r, i => if i > 9 ∨ (i = 9 ∧ b > 1) ∨ (i > 0 ∧ b = 0) then none else if b < 128 then some (b, 1) else (takeL r (i + 1)).map fun p => (b - 128 + 128 * p.1, p.2 + 1)
theorem takeL_putL : ∀ (n u i : Nat) (r : List Int), u ≤ n → u * 2 ^ (7 * i) < 18446744073709551616 → (i = 0 ∨ 0 < u) → takeL (putL u ++ r) i = some ((u : Int), (putL u).length) := by
 intro n
 induction n with
 | zero =>
  intro u i r h h1 h2
  have hu : u = 0 := by omega
  subst hu
  rw [putL_small (by omega)]
  simp only [List.cons_append, List.nil_append, takeL]
  rw [if_neg (by omega), if_pos (by omega)]
  rfl
 | succ n ih =>
  intro u i r h h1 h2
  have hp : 0 < 2 ^ (7 * i) := Nat.two_pow_pos _
  have hi : i ≤ 9 ∨ u = 0 := by
   by_cases hi : i ≤ 9
   ·exact .inl hi
   ·right
    have h70 : 2 ^ 70 ≤ 2 ^ (7 * i) := Nat.pow_le_pow_right (by decide) (by omega)
    have e70 : (2 : Nat) ^ 70 = 1180591620717411303424 := by decide
    rw [e70] at h70
    by_cases hu : u = 0
    ·exact hu
    ·have := Nat.mul_le_mul (show 1 ≤ u by omega) h70
     omega
  have h9 : i = 9 → u ≤ 1 := by
   intro h
   subst h
   have e63 : (2 : Nat) ^ (7 * 9) = 9223372036854775808 := by decide
   rw [e63] at h1
   omega
  by_cases hu : u < 128
  ·rw [putL_small hu]
   simp only [List.cons_append, List.nil_append, takeL]
   rw [if_neg (by omega), if_pos (by omega)]
   rfl
  ·rw [putL_great hu]
   simp only [List.cons_append, takeL]
   have hn9 : i ≠ 9 := by intro h; have := h9 h; omega
   rw [if_neg (by omega), if_neg (by omega)]
   have e : 2 ^ (7 * (i + 1)) = 128 * 2 ^ (7 * i) := by rw [Nat.mul_add, Nat.pow_add]; omega
   rw [ih (u / 128) (i + 1) r (by omega) (by
    rw [e]
    have := Nat.mul_le_mul_right (2 ^ (7 * i)) (show u / 128 * 128 ≤ u by omega)
    rw [Nat.mul_assoc] at this
    omega) (.inr (by omega))]
   simp only [Option.map_some, List.length_cons, Option.some.injEq, Prod.mk.injEq, and_true]
   omega
/-- What takes something takes it from the front. -/
theorem takeL_some : ∀ (l : List Int) (i : Nat) (p : Int × Nat), Bs l → takeL l i = some p → 0 < p.2 ∧ p.2 ≤ l.length ∧ 0 ≤ p.1 ∧ p.1 * 2 ^ (7 * i) < 18446744073709551616 ∧ l.take p.2 = putL p.1.toNat := by
 intro l
 induction l with
 | nil => intro i p _ h; cases h
 | cons b r ih =>
  intro i p hb h
  have hb0 := hb b (List.mem_cons_self)
  simp only [takeL] at h
  by_cases hc : i > 9 ∨ (i = 9 ∧ b > 1) ∨ (i > 0 ∧ b = 0)
  ·rw [if_pos hc] at h; cases h
  ·rw [if_neg hc] at h
   have hpow : (2 : Int) ^ (7 * i) ≤ 9223372036854775808 := by
    have h1 : 2 ^ (7 * i) ≤ 2 ^ 63 := Nat.pow_le_pow_right (by decide) (by omega)
    have h2 : ((2 ^ (7 * i) : Nat) : Int) = (2 : Int) ^ (7 * i) := by simp
    have h3 : (2 : Nat) ^ 63 = 9223372036854775808 := by decide
    rw [h3] at h1
    omega
   have hpos : (0 : Int) < 2 ^ (7 * i) := by
    have h1 : 0 < 2 ^ (7 * i) := Nat.two_pow_pos _
    have h2 : ((2 ^ (7 * i) : Nat) : Int) = (2 : Int) ^ (7 * i) := by simp
    omega
   have hpow8 : i ≤ 8 → (2 : Int) ^ (7 * i) ≤ 72057594037927936 := by
    intro h8
    have h1 : 2 ^ (7 * i) ≤ 2 ^ 56 := Nat.pow_le_pow_right (by decide) (by omega)
    have h2 : ((2 ^ (7 * i) : Nat) : Int) = (2 : Int) ^ (7 * i) := by simp
    have h3 : (2 : Nat) ^ 56 = 72057594037927936 := by decide
    rw [h3] at h1
    omega
   by_cases hs : b < 128
   ·rw [if_pos hs] at h
    cases h
    refine ⟨by simp, by simp, hb0.1, ?_, ?_⟩
    ·simp only
     by_cases h9 : i = 9
     ·have hb1 : b ≤ 1 := by omega
      have := Int.mul_le_mul_of_nonneg_right hb1 (show (0 : Int) ≤ 2 ^ (7 * i) by omega)
      omega
     ·have hp := hpow8 (by omega)
      have := Int.mul_le_mul_of_nonneg_right (show b ≤ 127 by omega) (show (0 : Int) ≤ 2 ^ (7 * i) by omega)
      omega
    ·rw [putL_small (by omega)]
     simp
     omega
   ·rw [if_neg hs] at h
    cases ht : takeL r (i + 1) with
    | none => rw [ht] at h; cases h
    | some q =>
     rw [ht] at h
     cases h
     obtain ⟨h1, h2, h3, h4, h5⟩ := ih (i + 1) q (fun x hx => hb x (List.mem_cons_of_mem _ hx)) ht
     have e : (2 : Int) ^ (7 * (i + 1)) = 128 * 2 ^ (7 * i) := by rw [Nat.mul_add, Int.pow_add]; omega
     rw [e] at h4
     have hq : 0 < q.1 := by
      cases r with
      | nil => cases ht
      | cons c r =>
       simp only [takeL] at ht
       by_cases hc2 : i + 1 > 9 ∨ (i + 1 = 9 ∧ c > 1) ∨ (i + 1 > 0 ∧ c = 0)
       ·rw [if_pos hc2] at ht; cases ht
       ·rw [if_neg hc2] at ht
        have hc0 := hb c (by simp)
        by_cases hs2 : c < 128
        ·rw [if_pos hs2] at ht; cases ht; simp; omega
        ·rw [if_neg hs2] at ht
         cases ht2 : takeL r (i + 1 + 1) with
         | none => rw [ht2] at ht; cases ht
         | some z =>
          rw [ht2] at ht
          cases ht
          simp only at h3 ⊢
          by_cases hz : z.1 < 0
          ·omega
          ·have : 0 < z.1 ∨ c - 128 + 128 * z.1 ≠ 0 ∨ z.1 = 0 ∧ c = 128 := by omega
           rcases this with g | g | ⟨g1, g2⟩
           ·omega
           ·omega
           ·exfalso
            -- a last group of nought is none
            have key : ∀ (r : List Int) (j : Nat) (z : Int × Nat), 0 < j → Bs r → takeL r j = some z → z.1 ≠ 0 := by
             intro r
             induction r with
             | nil => intro j z _ _ h; cases h
             | cons d r ihr =>
              intro j z hj hbr h
              have hd := hbr d (by simp)
              simp only [takeL] at h
              by_cases hcd : j > 9 ∨ (j = 9 ∧ d > 1) ∨ (j > 0 ∧ d = 0)
              ·rw [if_pos hcd] at h; cases h
              ·rw [if_neg hcd] at h
               by_cases hsd : d < 128
               ·rw [if_pos hsd] at h; cases h; simp; omega
               ·rw [if_neg hsd] at h
                cases hz : takeL r (j + 1) with
                | none => rw [hz] at h; cases h
                | some y =>
                 rw [hz] at h
                 cases h
                 have := ihr (j + 1) y (by omega) (fun x hx => hbr x (List.mem_cons_of_mem _ hx)) hz
                 simp only
                 omega
            exact key r (i + 1 + 1) z (by omega) (fun x hx => hb x (by simp [hx])) ht2 g1
     refine ⟨by simp, by simp; omega, by simp only; omega, ?_, ?_⟩
     ·simp only
      have hi8 : i ≤ 8 := by
       by_cases h9 : i = 9
       ·omega
       ·omega
      have hM : (2 : Int) ^ (7 * i) * (128 * 2 ^ (57 - 7 * i)) = 18446744073709551616 := by
       have e1 : (128 : Int) = 2 ^ 7 := by decide
       rw [e1, ← Int.pow_add, ← Int.pow_add, show 7 * i + (7 + (57 - 7 * i)) = 64 by omega]
       decide
      have hM0 : (0 : Int) < 2 ^ (57 - 7 * i) := by
       have h1 : 0 < 2 ^ (57 - 7 * i) := Nat.two_pow_pos _
       have h2 : ((2 ^ (57 - 7 * i) : Nat) : Int) = (2 : Int) ^ (57 - 7 * i) := by simp
       omega
      generalize (2 : Int) ^ (7 * i) = P at *
      generalize (2 : Int) ^ (57 - 7 * i) = M at *
      have hqM : q.1 < M := by
       by_cases hc : q.1 < M
       ·exact hc
       ·have := Int.mul_le_mul_of_nonneg_right (show M ≤ q.1 by omega) (show (0 : Int) ≤ 128 * P by omega)
        have e2 : M * (128 * P) = P * (128 * M) := by rw [Int.mul_left_comm, Int.mul_comm M P, Int.mul_left_comm]
        omega
      have g1 := Int.mul_le_mul_of_nonneg_right (show b - 128 + 128 * q.1 ≤ 128 * M - 1 by omega) (show (0 : Int) ≤ P by omega)
      have g2 : (128 * M - 1) * P = P * (128 * M) - P := by rw [Int.sub_mul, Int.mul_comm (128 * M) P, Int.one_mul]
      omega
     ·simp only [List.take_succ_cons]
      have e1 : (b - 128 + 128 * q.1).toNat / 128 = q.1.toNat := by omega
      have e2 : (((b - 128 + 128 * q.1).toNat % 128 + 128 : Nat) : Int) = b := by omega
      rw [putL_great (u := (b - 128 + 128 * q.1).toNat) (by omega), e1, e2, h5]
def leL : Int → Nat → List Int
 | _, 0 => []
 | n, s + 1 => n % 256 :: leL (n / 256) s
def unleL : List Int → Int
 | [] => 0
 | b :: r => b + 256 * unleL r
theorem leL_len (n : Int) (s : Nat) : (leL n s).length = s := by
 induction s generalizing n with
 | zero => rfl
 | succ s ih => simp [leL, ih]
theorem leL_bs (n : Int) (s : Nat) : Bs (leL n s) := by
 induction s generalizing n with
 | zero => exact Bs.nil
 | succ s ih => exact (ih _).cons (by omega) (by omega)
theorem leL_snoc (n : Int) (s : Nat) : leL n (s + 1) = leL n s ++ [n / 256 ^ s % 256] := by
 induction s generalizing n with
 | zero => simp [leL]
 | succ s ih =>
  rw [leL, ih (n / 256), leL]
  simp only [List.cons_append, List.cons.injEq, true_and, List.append_cancel_left_eq, and_true]
  rw [Int.pow_succ', Int.ediv_ediv_of_nonneg (by decide)]
theorem pow256_pos (s : Nat) : (0 : Int) < 256 ^ s := by
 have h1 : 0 < 256 ^ s := Nat.pow_pos (by decide)
 have h2 : ((256 ^ s : Nat) : Int) = (256 : Int) ^ s := by simp
 omega
theorem unleL_leL (n : Int) (s : Nat) : unleL (leL n s) = n % 256 ^ s := by
 induction s generalizing n with
 | zero => simp [leL, unleL, Int.emod_one]
 | succ s ih =>
  simp only [leL, unleL, ih]
  have hp := pow256_pos s
  have h := Int.emod_emod_of_dvd
  rw [Int.pow_succ', Int.emod_def n (256 * 256 ^ s), Int.emod_def (n / 256) (256 ^ s), Int.ediv_ediv_of_nonneg (by decide), Int.mul_sub, ← Int.mul_assoc]
  have := Int.emod_add_mul_ediv n 256
  omega
theorem unleL_range (l : List Int) (h : Bs l) : 0 ≤ unleL l ∧ unleL l < 256 ^ l.length := by
 induction l with
 | nil => simp [unleL]
 | cons b r ih =>
  have hb := h b (by simp)
  obtain ⟨h1, h2⟩ := ih (fun x hx => h x (List.mem_cons_of_mem _ hx))
  simp only [unleL, List.length_cons, Int.pow_succ']
  omega
theorem leL_unleL (l : List Int) (h : Bs l) : leL (unleL l) l.length = l := by
 induction l with
 | nil => rfl
 | cons b r ih =>
  have hb := h b (by simp)
  simp only [unleL, List.length_cons, leL]
  rw [show (b + 256 * unleL r) % 256 = b by omega, show (b + 256 * unleL r) / 256 = unleL r by omega, ih (fun x hx => h x (List.mem_cons_of_mem _ hx))]
theorem leL_mod (n : Int) (s t : Nat) (h : s ≤ t) : leL (n % 256 ^ t) s = leL n s := by
 induction s generalizing n t with
 | zero => rfl
 | succ s ih =>
  cases t with
  | zero => omega
  | succ t =>
   have hp := pow256_pos t
   simp only [leL]
   have e1 : n % 256 ^ (t + 1) % 256 = n % 256 := by
    rw [Int.pow_succ']
    exact Int.emod_emod_of_dvd n (Int.dvd_mul_right _ _)
   have e2 : n % 256 ^ (t + 1) / 256 = n / 256 % 256 ^ t := by
    rw [Int.pow_succ']
    generalize (256 : Int) ^ t = P at *
    have h1 := Int.emod_add_mul_ediv (n / 256) P
    have h2 := Int.emod_nonneg (n / 256) (show P ≠ 0 by omega)
    have h3 := Int.emod_lt_of_pos (n / 256) hp
    have h4 : n = 256 * (n / 256 % P) + n % 256 + 256 * P * (n / 256 / P) := by rw [Int.mul_assoc]; omega
    have h5 : n % (256 * P) = 256 * (n / 256 % P) + n % 256 := by
     conv => lhs; rw [h4]
     rw [Int.add_mul_emod_self_left]
     exact Int.emod_eq_of_lt (by omega) (by omega)
    rw [h5]
    omega
   rw [e1, e2, ih _ _ (by omega)]
theorem leL_mod' (n : Int) (s : Nat) (h : s ≤ 8) : leL (n % 18446744073709551616) s = leL n s := by
 have e8 : (256 : Int) ^ 8 = 18446744073709551616 := by decide
 rw [← e8]
 exact leL_mod n s 8 h
theorem unleL_snoc (l : List Int) (b : Int) : unleL (l ++ [b]) = unleL l + b * 256 ^ l.length := by
 induction l with
 | nil => simp [unleL]
 | cons c r ih =>
  simp only [List.cons_append, unleL, ih, List.length_cons, Int.pow_succ', Int.mul_add]
  rw [Int.mul_left_comm b 256]
  omega
/-- Bytes joined by 'or' are a sum. -/
theorem or_join (u b : Int) (i : Nat) (hi : i ≤ 7) (hu : 0 ≤ u) (hu1 : u < 256 ^ i) (hb : 0 ≤ b) (hb1 : b < 256) :
 bits .or .i64 (wrap64 u) (wrap64 (b * 256 ^ i)) = wrap64 (u + b * 256 ^ i) := by
 have hp := pow256_pos i
 have hp7 : (256 : Int) ^ i ≤ 72057594037927936 := by
  have h1 : 256 ^ i ≤ 256 ^ 7 := Nat.pow_le_pow_right (by decide) hi
  have h2 : ((256 ^ i : Nat) : Int) = (256 : Int) ^ i := by simp
  have h3 : (256 : Nat) ^ 7 = 72057594037927936 := by decide
  rw [h3] at h1
  omega
 have hbp := Int.mul_le_mul_of_nonneg_right (show b ≤ 255 by omega) (show (0 : Int) ≤ 256 ^ i by omega)
 have hbp0 := Int.mul_nonneg hb (show (0 : Int) ≤ 256 ^ i by omega)
 obtain ⟨v, rfl⟩ := Int.eq_ofNat_of_zero_le hu
 obtain ⟨c, rfl⟩ := Int.eq_ofNat_of_zero_le hb
 have hwr : ∀ x : Int, 0 ≤ x → x < 18446744073709551616 → (BitVec.ofInt 64 (wrap64 x)).toNat = x.toNat := by
  intro x h0 h1
  have h := ofInt_toNat 64 (wrap64 x)
  have e : (2 : Int) ^ 64 = 18446744073709551616 := by decide
  rw [e] at h
  unfold wrap64 at *
  omega
 rw [bits_or_i64, hwr _ (by omega) (by omega), hwr _ hbp0 (by omega)]
 have e1 : ((c : Int) * 256 ^ i).toNat = 2 ^ (8 * i) * c := by
  have h2 : ((2 ^ (8 * i) * c : Nat) : Int) = (c : Int) * 256 ^ i := by
   rw [Nat.pow_mul]
   simp [Int.mul_comm]
  rw [← h2, Int.toNat_natCast]
 have h8 : (2 : Nat) ^ (8 * i) = 256 ^ i := by rw [Nat.pow_mul]
 have e2 : v < 2 ^ (8 * i) := by
  rw [h8]
  have h2 : ((256 ^ i : Nat) : Int) = (256 : Int) ^ i := by simp
  omega
 rw [e1, Int.toNat_natCast, Nat.or_comm, ← Nat.two_pow_add_eq_or_of_lt e2 c]
 congr 1
 have h2 : ((2 ^ (8 * i) * c : Nat) : Int) = (c : Int) * 256 ^ i := by
  rw [h8]
  simp [Int.mul_comm]
 omega
end Go.Proofs.YtimhcpmfhebbhaaDoor.Seven
