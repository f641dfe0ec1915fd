/-
  Texts of the proofs of ImageWrites, cut to what the proofs reach and packed by a program of this session (wip/packs.py). Each part begins with what it says; conditions: those told there.
-/
import Derived.Test.YtimhcpmfhebbhaaDoorPWA13
namespace Go.Proofs.YtimhcpmfhebbhaaDoor.M
set_option maxRecDepth 100000
set_option maxRecDepth 100000
open Go.RowKit Go.Proofs.YtimhcpmfhebbhaaDoorW.PrintWords Go.Proofs.YtimhcpmfhebbhaaDoorW.PrintLast Go.Proofs.YtimhcpmfhebbhaaDoor.Num Go.Proofs.YtimhcpmfhebbhaaDoor.Seven Go.Proofs.YtimhcpmfhebbhaaDoor.Word1 Go.Proofs.YtimhcpmfhebbhaaDoor.Obj
set_option linter.unusedVariables false
set_option linter.unusedSimpArgs false
theorem same_img (c : ByteArray) (d : List Int) (y : List S68) (hd : d.length ≤ 20000000000000) (hy : y.length ≤ 20000000000000) (k : Nat) (k1 : d.length < k) (k2 : y.length < k) : cotterref07_Same.f k c d y c d y = some true := by
 unfold cotterref07_Same.f
 obtain ⟨b1, e1, g1⟩ := sameData_f d d (by omega) k k1
 obtain ⟨b2, e2, g2⟩ := sameSyms_f y y (by omega) k k2
 obtain rfl := g1.2 rfl
 obtain rfl := g2.2 rfl
 rw [if_pos rfl, e1]
 simp only [Option.bind_some, if_true]
 rw [e2]
 rfl
theorem threads_le (y : List S68) : (threadsOf y).length ≤ y.length := by
 unfold threadsOf
 rw [List.length_map]
 exact List.length_filter_le _ _
end Go.Proofs.YtimhcpmfhebbhaaDoor.M
namespace Go.Proofs.YtimhcpmfhebbhaaDoor.M
set_option maxRecDepth 100000
open Go.RowKit Go.Proofs.YtimhcpmfhebbhaaDoorW.PrintWords Go.Proofs.YtimhcpmfhebbhaaDoorW.PrintLast Go.Proofs.YtimhcpmfhebbhaaDoor.Num Go.Proofs.YtimhcpmfhebbhaaDoor.Obj
set_option linter.unusedVariables false
set_option linter.unusedSimpArgs false
set_option maxHeartbeats 16000000 in
set_option maxRecDepth 100000 in
theorem imageWrites_c {c : ByteArray} {A1 : Option Addr} {c1 : Nat} {d : List Int} {A2 : Option Addr} {c2 : Nat} {y : List S68} {W : World} (hG : Glob W) (h1 : Kd.C (Kd.int .i64) W A1 d.length d) (g1 : d.length ≤ c1) (h2 : Kd.C k68 W A2 y.length y) (g2 : y.length ≤ c2) (hw : wordsOk d) (hl : d.length * 8 ≤ 140737488351232) :
 Calls Tryd.prog 3 #[.agg #[.string c, .slice A1 d.length c1, .slice A2 y.length c2]] W fun e w' => e = .returned (.bool true) ∧ Below W.heap.size W w' := by
 have HG := z4 hG
 have LC := z4 (fun (w : World) (h : Below W.heap.size W w) => cotterlaw08_live.calls true w (HG.out.below h rfl) rfl)
 have R1 := z4 (fun (w : World) (h : Below W.heap.size W w) => zS h1 h)
 have R2 := z4 (fun (w : World) (h : Below W.heap.size W w) => zS h2 h)
 have G1 := z4 g1
 have G2 := z4 g2
 have HB0 := z4 (zA (Below.refl W.heap.size W) (.cells #[.string c, .slice A1 d.length c1, .slice A2 y.length c2] 25))
 have B0 := z4 (blk_new W (.cells #[.string c, .slice A1 d.length c1, .slice A2 y.length c2] 25))
 obtain ⟨b, hb⟩ : ∃ b, cotterlaw08_small.f c d y = some b := by
  unfold cotterlaw08_small.f
  split <;> exact ⟨_, rfl⟩
 have SM := z4 hb
 cases b
 case false =>
  clear hG h1 h2 g1 g2 hw hl hb
  go_enter Tryd.func3, Tryd.ntmps3
  go_wp2_with (first
   | (go_at_call 7; (with_reducible refine (cotterlaw08_small.calls c A1 c1 d A2 c2 y false _ (R1.out _ HB0.out) G1.out (R2.out _ HB0.out) G2.out SM.out).mono ?_); rintro e w1 ⟨rfl, hb⟩; have HB1 := z4 (below_inL HB0.out hb); clear hb)
   | (go_at_call 8; (with_reducible refine (LC.out _ HB1.out).mono ?_); rintro e w2 ⟨rfl, hb⟩; have HB2 := z4 (below_inL HB1.out hb); clear hb))
  go_ret
  exact ⟨rfl, HB2.out⟩
 case true =>
  have hy : y.length ≤ 200 := by
   unfold cotterlaw08_small.f at hb
   split at hb
   ·omega
   ·cases hb
  have CP := z4 (show cotterref07_Copy.f c d y = some (c, d, y) by unfold cotterref07_Copy.f; rw [if_pos (by simp; omega), if_pos (by simp; omega)]; rfl)
  obtain ⟨X, E, hX⟩ : ∃ X E, imgW c d y = (X, E) := ⟨_, _, rfl⟩
  have WX := z4 (show image_Write.f c d y = some (X, E) by unfold image_Write.f; rw [if_pos hw, hX])
  have WY := z4 (show cotterref08_Write.f c d y = some (X, E) from WX.out)
  have TA := z4 (ithreads_f c d y (by omega) 5000 (by omega))
  have TB := z4 (rthreads_f c d y (by omega) 5000 (by omega))
  have ht := threads_le y
  obtain ⟨th, hth⟩ : ∃ th, th = threadsOf y := ⟨_, rfl⟩
  rw [← hth] at TA TB ht
  have htl : th.length ≤ 200 := by omega
  obtain ⟨K, hK⟩ : ∃ K : Int, K = if mayI c d y = true then 0 else 9 := ⟨_, rfl⟩
  have KA := z4 (show image_Check.f c d y = some K by unfold image_Check.f; rw [hK])
  have KB := z4 (show cotterref08_Check.f 4000000 c d y = some K by
   unfold cotterref08_Check.f
   rw [may_f c d y _ (by omega), hK]
   cases mayI c d y <;> rfl)
  have SF := z4 (same_img c d y (by omega) (by omega) (d.length + 5000) (by omega) (by omega))
  clear hG h1 h2 g1 g2 hw hl hb hy hX ht hth hK
  go_enter Tryd.func3, Tryd.ntmps3
  go_wp2_with (first
   | (go_at_call 7; (with_reducible refine (cotterlaw08_small.calls c A1 c1 d A2 c2 y true _ (R1.out _ HB0.out) G1.out (R2.out _ HB0.out) G2.out SM.out).mono ?_); rintro e w1 ⟨rfl, hb⟩; have HB1 := z4 (below_inL HB0.out hb); have B1 := z4 (blk_below B0.out hb); have ki10 : w1.cell? ⟨W.heap.size, 0, none⟩ = some (.string c) := (zC B1.out 0).trans rfl; have ki11 : w1.cell? ⟨W.heap.size, 1, none⟩ = some (.slice A1 d.length c1) := (zC B1.out 1).trans rfl; have ki12 : w1.cell? ⟨W.heap.size, 2, none⟩ = some (.slice A2 y.length c2) := (zC B1.out 2).trans rfl; clear hb)
   | (go_at_call 9; (with_reducible refine (cotterref07_Copy.calls c A1 c1 d A2 c2 y c d y _ (R1.out _ HB1.out) G1.out (R2.out _ HB1.out) G2.out CP.out).mono ?_); rintro e w2 ⟨v1, v2, rfl, h1, h2, hb⟩; obtain ⟨A3, c3, rfl⟩ := Kd.R_slice h1; obtain ⟨A4, c4, rfl⟩ := Kd.R_slice h2; have G3 := z4 (zT h1).2.1; have G4 := z4 (zT h2).2.1; have RA := z4 (zP (zT h1).2.2 (.cells #[.string c, .slice A3 d.length c3, .slice A4 y.length c4] 25)); have RB := z4 (zP (zT h2).2.2 (.cells #[.string c, .slice A3 d.length c3, .slice A4 y.length c4] 25)); have HB2 := z4 (zA (below_inL HB1.out hb) (.cells #[.string c, .slice A3 d.length c3, .slice A4 y.length c4] 25)); have B2 := z4 (zG (blk_below B1.out hb) (.cells #[.string c, .slice A3 d.length c3, .slice A4 y.length c4] 25)); have O2 := z4 (blk_new w2 (.cells #[.string c, .slice A3 d.length c3, .slice A4 y.length c4] 25)); clear h1 h2 hb; have ko20 : (w2.alloc (.cells #[.string c, .slice A3 d.length c3, .slice A4 y.length c4] 25)).cell? ⟨w2.heap.size, 0, none⟩ = some (.string c) := (zC O2.out 0).trans rfl; have ko21 : (w2.alloc (.cells #[.string c, .slice A3 d.length c3, .slice A4 y.length c4] 25)).cell? ⟨w2.heap.size, 1, none⟩ = some (.slice A3 d.length c3) := (zC O2.out 1).trans rfl; have ko22 : (w2.alloc (.cells #[.string c, .slice A3 d.length c3, .slice A4 y.length c4] 25)).cell? ⟨w2.heap.size, 2, none⟩ = some (.slice A4 y.length c4) := (zC O2.out 2).trans rfl)
   | (go_at_call 10; (with_reducible refine (image_Write.calls c A3 c3 d A4 c4 y X E _ (HG.out.below HB2.out rfl) RA.out G3.out RB.out G4.out WX.out).mono ?_); rintro e w3 ⟨rfl, hb⟩; have HB3 := z4 (below_inL HB2.out hb); have B3 := z4 (blk_below B2.out hb); have O3 := z4 (blk_below O2.out hb); have RA3 := z4 (zS RA.out hb); have RB3 := z4 (zS RB.out hb); have ki30 : w3.cell? ⟨W.heap.size, 0, none⟩ = some (.string c) := (zC B3.out 0).trans rfl; have ki31 : w3.cell? ⟨W.heap.size, 1, none⟩ = some (.slice A1 d.length c1) := (zC B3.out 1).trans rfl; have ki32 : w3.cell? ⟨W.heap.size, 2, none⟩ = some (.slice A2 y.length c2) := (zC B3.out 2).trans rfl; clear hb)
   | (go_at_call 11; (with_reducible refine (cotterref08_Write.calls c A1 c1 d A2 c2 y X E _ (R1.out _ HB3.out) G1.out (R2.out _ HB3.out) G2.out WY.out).mono ?_); rintro e w4 ⟨rfl, hb⟩; have HB4 := z4 (below_inL HB3.out hb); have B4 := z4 (blk_below B3.out hb); have O4 := z4 (blk_below O3.out hb); have RA4 := z4 (zS RA3.out hb); have RB4 := z4 (zS RB3.out hb); have ko40 : w4.cell? ⟨w2.heap.size, 0, none⟩ = some (.string c) := (zC O4.out 0).trans rfl; have ko41 : w4.cell? ⟨w2.heap.size, 1, none⟩ = some (.slice A3 d.length c3) := (zC O4.out 1).trans rfl; have ko42 : w4.cell? ⟨w2.heap.size, 2, none⟩ = some (.slice A4 y.length c4) := (zC O4.out 2).trans rfl; clear hb)
   | (go_at_call 12; (with_reducible refine (image_Threads.calls 5000 c A3 c3 d A4 c4 y th _ RA4.out G3.out RB4.out G4.out TA.out).mono ?_); rintro e w5 ⟨v7, rfl, h7, hb⟩; obtain ⟨A7, c7, rfl⟩ := Kd.R_slice h7; have T7 := z4 (zT h7).2.2; have HB5 := z4 (below_inL HB4.out hb); have B5 := z4 (blk_below B4.out hb); have O5 := z4 (blk_below O4.out hb); have RA5 := z4 (zS RA4.out hb); have RB5 := z4 (zS RB4.out hb); have ki50 : w5.cell? ⟨W.heap.size, 0, none⟩ = some (.string c) := (zC B5.out 0).trans rfl; have ki51 : w5.cell? ⟨W.heap.size, 1, none⟩ = some (.slice A1 d.length c1) := (zC B5.out 1).trans rfl; have ki52 : w5.cell? ⟨W.heap.size, 2, none⟩ = some (.slice A2 y.length c2) := (zC B5.out 2).trans rfl; clear hb h7)
   | (go_at_call 13; (with_reducible refine (cotterref08_Threads.calls 5000 c A1 c1 d A2 c2 y th _ (R1.out _ HB5.out) G1.out (R2.out _ HB5.out) G2.out TB.out).mono ?_); rintro e w6 ⟨v8, rfl, h8, hb⟩; obtain ⟨A8, c8, rfl⟩ := Kd.R_slice h8; have T8 := z4 (zT h8).2.2; have T76 := z4 (zS T7.out hb); have HB6 := z4 (below_inL HB5.out hb); have B6 := z4 (blk_below B5.out hb); have O6 := z4 (blk_below O5.out hb); have RA6 := z4 (zS RA5.out hb); have RB6 := z4 (zS RB5.out hb); have ki60 : w6.cell? ⟨W.heap.size, 0, none⟩ = some (.string c) := (zC B6.out 0).trans rfl; have ki61 : w6.cell? ⟨W.heap.size, 1, none⟩ = some (.slice A1 d.length c1) := (zC B6.out 1).trans rfl; have ki62 : w6.cell? ⟨W.heap.size, 2, none⟩ = some (.slice A2 y.length c2) := (zC B6.out 2).trans rfl; have ko60 : w6.cell? ⟨w2.heap.size, 0, none⟩ = some (.string c) := (zC O6.out 0).trans rfl; have ko61 : w6.cell? ⟨w2.heap.size, 1, none⟩ = some (.slice A3 d.length c3) := (zC O6.out 1).trans rfl; have ko62 : w6.cell? ⟨w2.heap.size, 2, none⟩ = some (.slice A4 y.length c4) := (zC O6.out 2).trans rfl; clear hb h8))
  clear HB0 HB1 HB2 HB3 HB4 HB5 B0 B1 B2 B3 B4 B5 O2 O3 O4 O5 RA RA3 RA4 RA5 RB RB3 RB4 RB5 T7
  go_region_held3 (fun w' => w'.cell? ⟨w2.heap.size, 0, none⟩ = some (.string c) ∧ w'.cell? ⟨w2.heap.size, 1, none⟩ = some (.slice A3 d.length c3) ∧ w'.cell? ⟨w2.heap.size, 2, none⟩ = some (.slice A4 y.length c4) ∧ w'.cell? ⟨W.heap.size, 0, none⟩ = some (.string c) ∧ w'.cell? ⟨W.heap.size, 1, none⟩ = some (.slice A1 d.length c1) ∧ w'.cell? ⟨W.heap.size, 2, none⟩ = some (.slice A2 y.length c2) ∧ Below w6.heap.size w6 w') (first | (refine and_belowL (by assumption) (by assumption) (fun h => ?_); (repeat (refine and_belowL (by assumption) h (fun h => ?_))); exact below_then h h.size (by assumption)) | ((repeat' apply And.intro) <;> first | (apply zD; exact Below.refl _ _) | (go_keep; done)))
   (first
    | (go_at_call 14; (have hS_ := ‹_ ∧ _›); (have hB_ := hS_.2.2.2.2.2.2); clear hS_; (with_reducible refine (image_Check.calls c A3 c3 d A4 c4 y K _ (HG.out.below (below_inL HB6.out hB_) rfl) (zS RA6.out hB_) G3.out (zS RB6.out hB_) G4.out KA.out).mono ?_); rintro e w7 ⟨rfl, hb1⟩)
    | (go_at_call 15; (have hS_ := ‹_ ∧ _›); (have hB_ := hS_.2.2.2.2.2.2); clear hS_; (with_reducible refine (cotterref08_Check.calls 4000000 c A1 c1 d A2 c2 y K _ (R1.out _ (below_inL HB6.out hB_)) G1.out (R2.out _ (below_inL HB6.out hB_)) G2.out KB.out).mono ?_); rintro e w8 ⟨rfl, hb1⟩))
  have hS_ := ‹_ ∧ _›
  have BS := z4 hS_.2.2.2.2.2.2
  clear hS_
  go_wp2
  go_loopw [10] (fun v10 wr => ∃ i : Nat, i ≤ th.length ∧ v10 = .int .i64 i ∧ Aside0 (Below w6.heap.size w6 wr)) (fun v10 _ => th.length - (intOf v10).toNat)
  case atStart => exact ⟨0, Nat.zero_le _, rfl, BS⟩
  case round =>
   obtain ⟨i, hi, rfl, HR⟩ := hrel
   by_cases hlt : i < th.length
   case pos =>
    obtain ⟨ad7, e7, hx7⟩ := Kd.at_string (zS T76.out HR.out) (i : Int) (by omega) (by omega)
    cases e7
    obtain ⟨ad8, e8, hx8⟩ := Kd.at_string (zS T8.out HR.out) (i : Int) (by omega) (by omega)
    cases e8
    simp only [Int.toNat_natCast] at hx7 hx8
    have hil : (i : Int) < (th.length : Int) := by omega
    generalize rdOf ByteArray.empty th (i : Int) = tn at *
    go_wp2
    go_region_held3 (fun w' => w'.cell? (ad7.add i) = some (.string tn) ∧ w'.cell? (ad8.add i) = some (.string tn) ∧ Below wr.heap.size wr w') (first | (refine and_belowL (by assumption) (by assumption) (fun h => ?_); (repeat (refine and_belowL (by assumption) h (fun h => ?_))); exact below_then h h.size (by assumption)) | ((repeat' apply And.intro) <;> first | (apply zD; exact Below.refl _ _) | (go_keep; done))) (first | fail)
    have hS_ := ‹_ ∧ _›
    have HR2 := z4 (below_inL HR.out hS_.2.2)
    clear hS_
    go_wp2
    refine ⟨⟨i + 1, by omega, by first | rfl | go_num, HR2⟩, ?_⟩
    simp [intOf]
    omega
   case neg =>
    obtain rfl : i = th.length := by omega
    have BI := z4 (blk_below B6.out HR.out)
    have OI := z4 (blk_below O6.out HR.out)
    have kir0 : wr.cell? ⟨W.heap.size, 0, none⟩ = some (.string c) := (zC BI.out 0).trans rfl; have kir1 : wr.cell? ⟨W.heap.size, 1, none⟩ = some (.slice A1 d.length c1) := (zC BI.out 1).trans rfl; have kir2 : wr.cell? ⟨W.heap.size, 2, none⟩ = some (.slice A2 y.length c2) := (zC BI.out 2).trans rfl
    have kor0 : wr.cell? ⟨w2.heap.size, 0, none⟩ = some (.string c) := (zC OI.out 0).trans rfl; have kor1 : wr.cell? ⟨w2.heap.size, 1, none⟩ = some (.slice A3 d.length c3) := (zC OI.out 1).trans rfl; have kor2 : wr.cell? ⟨w2.heap.size, 2, none⟩ = some (.slice A4 y.length c4) := (zC OI.out 2).trans rfl
    go_wp2_with (first
     | (go_at_call 16; (with_reducible refine (cotterref07_Same.calls (d.length + 5000) c A3 c3 d A4 c4 y c A1 c1 d A2 c2 y true _ (zS RA6.out HR.out) G3.out (zS RB6.out HR.out) G4.out (R1.out _ (below_inL HB6.out HR.out)) G1.out (R2.out _ (below_inL HB6.out HR.out)) G2.out SF.out).mono ?_); rintro e w9 ⟨rfl, hb⟩; have HB9 := z4 (below_inL (below_inL HB6.out HR.out) hb); clear hb)
     | (go_at_call 8; (with_reducible refine (LC.out _ HB9.out).mono ?_); rintro e w10 ⟨rfl, hb⟩; have HB10 := z4 (below_inL HB9.out hb); clear hb))
    go_ret
    exact ⟨rfl, HB10.out⟩
end Go.Proofs.YtimhcpmfhebbhaaDoor.M
