/-
  Texts of the proofs of ImageReads, cut to what the proofs reach and packed by a program of this session (wip/packs.py). Each part begins with what it says; conditions: those told there.
-/
import Derived.Test.YtimhcpmfhebbhaaDoorPRA14
namespace Go.Proofs.YtimhcpmfhebbhaaDoor.M
set_option maxRecDepth 100000
open Go.RowKit Go.Proofs.YtimhcpmfhebbhaaDoorW.PrintWords Go.Proofs.YtimhcpmfhebbhaaDoor.Num Go.Proofs.YtimhcpmfhebbhaaDoor.Seven Go.Proofs.YtimhcpmfhebbhaaDoor.Word1 Go.Proofs.YtimhcpmfhebbhaaDoor.Obj
set_option linter.unusedVariables false
set_option linter.unusedSimpArgs false
theorem drop_cons {α : Type} {l : List α} {i : Nat} (h : i < l.length) : l.drop i = l[i] :: l.drop (i + 1) := List.drop_eq_getElem_cons h
theorem sameData_l0 (x y : List Int) (hl : x.length = y.length) (hm : x.length ≤ 9223372036854775806) : ∀ (d k i : Nat), x.length - i = d → i ≤ x.length → d < k → ∃ b, cotterref06_SameData.l0 k x y i = some b ∧ (b = true ↔ x.drop i = y.drop i) := by
 intro d
 induction d with
 | zero =>
  intro k i h1 h2 hk
  match k, hk with
  | k + 1, hk =>
   refine ⟨true, ?_, ?_⟩
   ·rw [cotterref06_SameData.l0, if_neg (by omega)]
   ·rw [List.drop_eq_nil_of_le (by omega), List.drop_eq_nil_of_le (by omega)]; simp
 | succ d ih =>
  intro k i h1 h2 hk
  match k, hk with
  | k + 1, hk =>
   have hx : i < x.length := by omega
   have hy : i < y.length := by omega
   rw [cotterref06_SameData.l0, if_pos (by omega), if_pos (by omega), if_pos (by omega)]
   have ex : rd x (i : Int) = x[i] := by simp [rd, List.getD_eq_getElem?_getD, List.getElem?_eq_getElem hx]
   have ey : rd y (i : Int) = y[i] := by simp [rd, List.getD_eq_getElem?_getD, List.getElem?_eq_getElem hy]
   rw [ex, ey, drop_cons hx, drop_cons hy, wrap64_id (by omega) (by omega)]
   clear ex ey
   generalize x[i] = a
   generalize y[i] = c
   by_cases he : a = c
   ·rw [if_pos he]
    obtain ⟨b, hb, hi⟩ := ih k (i + 1) (by omega) (by omega) (by omega)
    exact ⟨b, hb, by rw [hi, he]; simp⟩
   ·rw [if_neg he]
    exact ⟨false, rfl, by simp [he]⟩
theorem sameData_f (x y : List Int) (hm : x.length ≤ 9223372036854775806) (k : Nat) (hk : x.length < k) : ∃ b, cotterref06_SameData.f k x y = some b ∧ (b = true ↔ x = y) := by
 unfold cotterref06_SameData.f
 by_cases hl : x.length = y.length
 ·rw [if_pos (by omega)]
  obtain ⟨b, hb, hi⟩ := sameData_l0 x y hl hm x.length k 0 (by omega) (by omega) hk
  exact ⟨b, hb, by simpa using hi⟩
 ·rw [if_neg (by omega)]
  exact ⟨false, rfl, by simp; intro e; exact hl (by rw [e])⟩
theorem rdS {l : List S68} {i : Nat} (h : i < l.length) : rd_T68 l (i : Int) = l[i] := by simp [rd_T68, List.getD_eq_getElem?_getD, List.getElem?_eq_getElem h]
theorem text_beq (a b : ByteArray) : (a.toList == b.toList) = true ↔ a = b := by
 rw [beq_iff_eq]
 exact ⟨toList_inj, fun h => by rw [h]⟩
theorem sameSyms_l0 (x y : List S68) (hl : x.length = y.length) (hm : x.length ≤ 9223372036854775806) : ∀ (d k i : Nat), x.length - i = d → i ≤ x.length → d < k → ∃ b, cotterref06_SameSyms.l0 k x y i = some b ∧ (b = true ↔ x.drop i = y.drop i) := by
 intro d
 induction d with
 | zero =>
  intro k i h1 h2 hk
  match k, hk with
  | k + 1, hk =>
   refine ⟨true, ?_, ?_⟩
   ·rw [cotterref06_SameSyms.l0, if_neg (by omega)]
   ·rw [List.drop_eq_nil_of_le (by omega), List.drop_eq_nil_of_le (by omega)]; simp
 | succ d ih =>
  intro k i h1 h2 hk
  match k, hk with
  | k + 1, hk =>
   have hx : i < x.length := by omega
   have hy : i < y.length := by omega
   rw [cotterref06_SameSyms.l0, if_pos (by omega), if_pos (by omega), if_pos (by omega), rdS hx, rdS hy, drop_cons hx, drop_cons hy, wrap64_id (by omega) (by omega)]
   generalize x[i] = a
   generalize y[i] = c
   obtain ⟨a0, a1, a2⟩ := a
   obtain ⟨c0, c1, c2⟩ := c
   dsimp only
   by_cases he : a0 = c0 ∧ a1 = c1 ∧ a2 = c2
   ·obtain ⟨rfl, rfl, rfl⟩ := he
    rw [if_neg (by simp)]
    obtain ⟨b, hb, hi⟩ := ih k (i + 1) (by omega) (by omega) (by omega)
    exact ⟨b, hb, by rw [hi]; simp⟩
   ·rw [if_pos]
    ·exact ⟨false, rfl, by simp; intro h1 h2 h3; exact absurd ⟨h1, h2, h3⟩ he⟩
    ·by_cases e0 : a0 = c0
     ·by_cases e1 : a1 = c1
      ·have e2 : a2 ≠ c2 := fun e2 => he ⟨e0, e1, e2⟩
       simp [e2]
      ·simp [e1]
     ·have : (a0.toList == c0.toList) = false := by rw [Bool.eq_false_iff]; exact fun h => e0 ((text_beq _ _).1 h)
      simp [this]
theorem sameSyms_f (x y : List S68) (hm : x.length ≤ 9223372036854775806) (k : Nat) (hk : x.length < k) : ∃ b, cotterref06_SameSyms.f k x y = some b ∧ (b = true ↔ x = y) := by
 unfold cotterref06_SameSyms.f
 by_cases hl : x.length = y.length
 ·rw [if_pos (by omega)]
  obtain ⟨b, hb, hi⟩ := sameSyms_l0 x y hl hm x.length k 0 (by omega) (by omega) hk
  exact ⟨b, hb, by simpa using hi⟩
 ·rw [if_neg (by omega)]
  exact ⟨false, rfl, by simp; intro e; exact hl (by rw [e])⟩
end Go.Proofs.YtimhcpmfhebbhaaDoor.M
namespace Go.Proofs.YtimhcpmfhebbhaaDoor.M
set_option maxRecDepth 100000
set_option maxRecDepth 100000
open Go.RowKit Go.Proofs.YtimhcpmfhebbhaaDoorW.PrintWords Go.Proofs.YtimhcpmfhebbhaaDoorW.PrintLast Go.Proofs.YtimhcpmfhebbhaaDoor.Num Go.Proofs.YtimhcpmfhebbhaaDoor.Seven Go.Proofs.YtimhcpmfhebbhaaDoor.Word1 Go.Proofs.YtimhcpmfhebbhaaDoor.Obj
set_option linter.unusedVariables false
set_option linter.unusedSimpArgs false
theorem same_img (c : ByteArray) (d : List Int) (y : List S68) (hd : d.length ≤ 20000000000000) (hy : y.length ≤ 20000000000000) (k : Nat) (k1 : d.length < k) (k2 : y.length < k) : cotterref07_Same.f k c d y c d y = some true := by
 unfold cotterref07_Same.f
 obtain ⟨b1, e1, g1⟩ := sameData_f d d (by omega) k k1
 obtain ⟨b2, e2, g2⟩ := sameSyms_f y y (by omega) k k2
 obtain rfl := g1.2 rfl
 obtain rfl := g2.2 rfl
 rw [if_pos rfl, e1]
 simp only [Option.bind_some, if_true]
 rw [e2]
 rfl
theorem img_lens {s code : ByteArray} {d : List Int} {y : List S68} (h : IsImg s code d y) : d.length ≤ 4096 ∧ y.length ≤ 1000 := by
 obtain ⟨m1, m2, m3, -, m5, -⟩ := may_parts (may_of h.2.1)
 exact ⟨m2, m3⟩
end Go.Proofs.YtimhcpmfhebbhaaDoor.M
namespace Go.Proofs.YtimhcpmfhebbhaaDoor.M
set_option maxRecDepth 100000
open Go.RowKit Go.Proofs.YtimhcpmfhebbhaaDoorW.PrintWords Go.Proofs.YtimhcpmfhebbhaaDoorW.PrintLast Go.Proofs.YtimhcpmfhebbhaaDoor.Num Go.Proofs.YtimhcpmfhebbhaaDoor.Obj
set_option linter.unusedVariables false
set_option linter.unusedSimpArgs false
set_option maxHeartbeats 8000000 in
set_option maxRecDepth 100000 in
theorem imageReads_c (s : ByteArray) (W : World) (hG : Glob W) (hs : s.size ≤ 140737488351232) : Calls Tryd.prog 4 #[.string s] W fun e w' => e = .returned (.bool true) ∧ Below W.heap.size W w' := by
 have HG := z4 hG
 have LC := z4 (fun (w : World) (h : Glob w) => cotterlaw08_live.calls true w h rfl)
 by_cases h4 : (s.size : Int) > 4000
 ·clear hs hG
  go_enter Tryd.func4, Tryd.ntmps4
  go_wp2_with (first | (go_at_call 8; (with_reducible refine (LC.out _ HG.out).mono ?_); rintro e w1 ⟨rfl, hb⟩))
  go_ret
  exact ⟨rfl, hb⟩
 ·obtain ⟨c, d, y, e, he⟩ : ∃ c d y e, imgR s = (c, d, y, e) := ⟨_, _, _, _, rfl⟩
  have hl : d.length ≤ 4096 ∧ y.length ≤ 1000 := by
   rcases imgR_cases s with ⟨c', d', y', h⟩ | h
   ·rw [imgR_yes h] at he
    obtain ⟨rfl, rfl, rfl, rfl⟩ : c' = c ∧ d' = d ∧ y' = y ∧ (0 : Int) = e := by simpa using he
    exact img_lens h
   ·rw [h] at he
    obtain ⟨rfl, rfl, rfl, rfl⟩ : (⟨#[]⟩ : ByteArray) = c ∧ [] = d ∧ [] = y ∧ (9 : Int) = e := by simpa [imgZ] using he
    simp
  have hf : image_Read.f s = some (c, d, y, e) := by unfold image_Read.f; rw [if_pos (by omega), he]
  have RC := z4 (fun (w : World) (h : Glob w) => image_Read.calls s c d y e w h hf)
  have DC := z4 (fun (w : World) => cotterref08_Read.calls s c d y e w hf)
  have SF := z4 (same_img c d y (by omega) (by omega) 5000 (by omega) (by omega))
  clear hs hG he hl hf
  go_enter Tryd.func4, Tryd.ntmps4
  go_wp2_with (first
   | (go_at_call 17; (with_reducible refine (RC.out _ HG.out).mono ?_); rintro e1 w1 ⟨v1, v2, rfl, h1, h2, hb⟩; obtain ⟨A1, c1, rfl⟩ := Kd.R_slice h1; obtain ⟨A2, c2, rfl⟩ := Kd.R_slice h2; have H1 := z4 (zT h1); have H2 := z4 (zT h2); have HB1 := z4 (zA hb (.cells #[.string c, .slice A1 d.length c1, .slice A2 y.length c2] 25)); have B1 := z4 (blk_new w1 (.cells #[.string c, .slice A1 d.length c1, .slice A2 y.length c2] 25)); clear hb h1 h2)
   | (go_at_call 18; (with_reducible refine (DC.out _).mono ?_); rintro e2 w2 ⟨v1, v2, rfl, h1, h2, hb⟩; obtain ⟨A3, c3, rfl⟩ := Kd.R_slice h1; obtain ⟨A4, c4, rfl⟩ := Kd.R_slice h2; have H3 := z4 (zT h1); have H4 := z4 (zT h2); have H12 := z4 (zP (zS (zP H1.out.2.2 (.cells #[.string c, .slice A1 d.length c1, .slice A2 y.length c2] 25)) hb) (.cells #[.string c, .slice A3 d.length c3, .slice A4 y.length c4] 25)); have H22 := z4 (zP (zS (zP H2.out.2.2 (.cells #[.string c, .slice A1 d.length c1, .slice A2 y.length c2] 25)) hb) (.cells #[.string c, .slice A3 d.length c3, .slice A4 y.length c4] 25)); have HB2 := z4 (zA (below_inL HB1.out hb) (.cells #[.string c, .slice A3 d.length c3, .slice A4 y.length c4] 25)); have B2 := z4 (zG (blk_below B1.out hb) (.cells #[.string c, .slice A3 d.length c3, .slice A4 y.length c4] 25)); have B3 := z4 (blk_new w2 (.cells #[.string c, .slice A3 d.length c3, .slice A4 y.length c4] 25)); clear hb h1 h2; have ka0 : (w2.alloc (.cells #[.string c, .slice A3 d.length c3, .slice A4 y.length c4] 25)).cell? ⟨w1.heap.size, 0, none⟩ = some (.string c) := (zC B2.out 0).trans rfl; have ka1 : (w2.alloc (.cells #[.string c, .slice A3 d.length c3, .slice A4 y.length c4] 25)).cell? ⟨w1.heap.size, 1, none⟩ = some (.slice A1 d.length c1) := (zC B2.out 1).trans rfl; have ka2 : (w2.alloc (.cells #[.string c, .slice A3 d.length c3, .slice A4 y.length c4] 25)).cell? ⟨w1.heap.size, 2, none⟩ = some (.slice A2 y.length c2) := (zC B2.out 2).trans rfl; have kb0 : (w2.alloc (.cells #[.string c, .slice A3 d.length c3, .slice A4 y.length c4] 25)).cell? ⟨w2.heap.size, 0, none⟩ = some (.string c) := (zC B3.out 0).trans rfl; have kb1 : (w2.alloc (.cells #[.string c, .slice A3 d.length c3, .slice A4 y.length c4] 25)).cell? ⟨w2.heap.size, 1, none⟩ = some (.slice A3 d.length c3) := (zC B3.out 1).trans rfl; have kb2 : (w2.alloc (.cells #[.string c, .slice A3 d.length c3, .slice A4 y.length c4] 25)).cell? ⟨w2.heap.size, 2, none⟩ = some (.slice A4 y.length c4) := (zC B3.out 2).trans rfl)
   | (go_at_call 16; (with_reducible refine (cotterref07_Same.calls 5000 c A1 c1 d A2 c2 y c A3 c3 d A4 c4 y true _ H12.out H1.out.2.1 H22.out H2.out.2.1 (zP H3.out.2.2 _) H3.out.2.1 (zP H4.out.2.2 _) H4.out.2.1 SF.out).mono ?_); rintro e3 w3 ⟨rfl, hb⟩; have HB3 := z4 (below_inL HB2.out hb); clear hb)
   | (go_at_call 8; (with_reducible refine (LC.out _ (HG.out.below HB3.out rfl)).mono ?_); rintro e4 w4 ⟨rfl, hb⟩; have HB4 := z4 (below_inL HB3.out hb); clear hb))
  go_ret
  exact ⟨rfl, HB4.out⟩
end Go.Proofs.YtimhcpmfhebbhaaDoor.M
