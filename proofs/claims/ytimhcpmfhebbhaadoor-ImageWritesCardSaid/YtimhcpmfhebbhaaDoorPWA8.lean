/-
  Texts of the proofs of ImageWrites, cut to what the proofs reach and packed by a program of this session (wip/packs.py). Each part begins with what it says; conditions: those told there.
-/
import Derived.Test.YtimhcpmfhebbhaaDoorPWA7
namespace Go.Proofs.YtimhcpmfhebbhaaDoor.M
set_option maxRecDepth 100000
open Go.RowKit Go.Proofs.YtimhcpmfhebbhaaDoorW.PrintWords Go.Proofs.YtimhcpmfhebbhaaDoorW.PrintLast Go.Proofs.YtimhcpmfhebbhaaDoor.Num Go.Proofs.YtimhcpmfhebbhaaDoor.Seven Go.Proofs.YtimhcpmfhebbhaaDoor.Ins
set_option linter.unusedVariables false
set_option linter.unusedSimpArgs false
/-- Where each instruction begins. -/
def places (at_ : Nat) : List S79 → List (Int × S79)
 | [] => []
 | i :: is => ((at_ : Int), i) :: places (at_ + (formS i).length) is
theorem places_append : ∀ (a b : List S79) (p : Nat), places p (a ++ b) = places p a ++ places (p + (formsS a).length) b
 | [], b, p => by simp [places, formsS]
 | i :: a, b, p => by rw [List.cons_append, places, places, places_append a b, formsS_cons, List.length_append, List.cons_append, Nat.add_assoc]
theorem places_lt : ∀ (is : List S79) (p : Nat), (∀ i ∈ is, OkS i) → ∀ q ∈ places p is, (p : Int) ≤ q.1 ∧ q.1 < ((p + (formsS is).length : Nat) : Int)
 | [], _, _, q, hq => by cases hq
 | i :: is, p, h, q, hq => by
  have hp := formS_pos (h i (by simp))
  rw [formsS_cons, List.length_append]
  rcases List.mem_cons.1 hq with rfl | hq
  ·dsimp only; omega
  ·have := places_lt is _ (fun i hi => h i (by simp [hi])) q hq
   omega
theorem formS_size {i : S79} (h : OkS i) : size (shp i.f0) = ((formS i).length : Int) := (formL_len _ _ _ _ h.1.1).symm
theorem R_mapI {α : Type} {k : Kd α} {e base : Nat} {W W' : World} {ok : Nat → Prop} {v : Value} {l : List α} {mb n : Nat} {D : SymD} {R : Value → Option (SymD × List MemPlace)} {q : TypeId} (h : k.R e W base ok v l) (hm : W.ownsMap Tryd.prog q R mb n D) (hg : W.grownBy W' (some mb)) : k.R e W' base ok v l := by
 refine Kd.R_mono (Kd.R_grown (Kd.R_bound h) hg (fun k hk => ?_)) (fun _ h => h.1)
 obtain ⟨_, _, _, q', _, cells, hc⟩ := hk
 intro e
 obtain ⟨es, clock, hb, _⟩ := hm
 injection e with e
 subst e
 rw [hc] at hb
 cases hb
theorem map_below {W W1 : World} {q : TypeId} {R : Value → Option (SymD × List MemPlace)} {b n : Nat} {D : SymD} (h : W.ownsMap Tryd.prog q R b n D) (hb : Below W.heap.size W W1) : W1.ownsMap Tryd.prog q R b n D := by
 have hlt := h.lt
 obtain ⟨es, clock, hb', F, hs, hD⟩ := h
 exact ⟨es, clock, (hb.block _ hlt).trans hb', F, hs, hD⟩
theorem size_c {w : World} (hG : Glob w) (op : Int) : Calls Tryd.prog 53 #[.int .i64 op] w fun e w' => e = .returned (.int .i64 (size (shp op))) ∧ Below w.heap.size w w' := by
 refine (ins_Size.calls 1 op _ w hG (Size_f op 0)).mono ?_
 rintro e w' ⟨h, ⟨m, rfl⟩⟩
 exact ⟨h, zB (Below.refl _ _) m⟩
theorem starts_no {w : World} (hG : Glob w) {s : ByteArray} {k : Nat} (hall : ins_All.f k s = some ([], 9)) :
 Calls Tryd.prog 32 #[.string s] w fun e w' => e = .returned (.tuple #[.map none, .bool false]) ∧ Below w.heap.size w w' := by
 have CA := z4 (ins_All.calls k s [] 9 w hG hall)
 clear hG hall
 go_enter Tryd.func32, Tryd.ntmps32
 go_wp2_with (first | (go_at_call 52; (with_reducible refine CA.out.mono ?_); rintro e w1 ⟨v0, rfl, ho, hb⟩; have HB := z4 hb; clear ho hb))
 go_ret2
 exact ⟨rfl, HB.out⟩
theorem forms_le : ∀ (l : List S79), (∀ i ∈ l, OkS i) → (formsS l).length ≤ 10 * l.length
 | [], _ => Nat.le_refl _
 | i :: l, h => by
  have h1 := formS_pos (h i (by simp))
  have h2 := forms_le l fun i hi => h i (by simp [hi])
  rw [formsS_cons, List.length_append, List.length_cons]
  omega
theorem make_hint (n : Nat) (hn : n ≤ 1000000) (w : World) : (Instr.makeMap 75 (some (.int .i64 (n : Int)))).run Tryd.prog w = .ok (.map (some w.heap.size)) (w.alloc (.map #[] 0)) := by
 simp [Instr.makeMap, run_underlying Tryd.underlying75, asInt, asIntOf, Result.andThen]
set_option maxHeartbeats 8000000 in
theorem starts_yes {w : World} (hG : Glob w) {s : ByteArray} {is : List S79} {k : Nat} (hall : ins_All.f k s = some (is, 0)) (hok : ∀ i ∈ is, OkS i) (hlen : is.length ≤ 1000000) :
 Calls Tryd.prog 32 #[.string s] w fun e w' => ∃ (mb n : Nat) (D : SymD), e = .returned (.tuple #[.map (some mb), .bool true]) ∧ w'.ownsMap Tryd.prog 3 RIns mb n D ∧ FndI D (places 0 is) ∧ n ≤ 1000000 ∧ w.heap.size ≤ mb ∧ Below w.heap.size w w' := by
 have CA := z4 (ins_All.calls k s is 0 w hG hall)
 have HG := z4 hG
 have HOK := z4 hok
 have hmm := make_hint is.length hlen
 clear hG hall hok
 go_enter Tryd.func32, Tryd.ntmps32
 go_wp2_with (first | (go_at_call 52; (with_reducible refine CA.out.mono ?_); rintro e w1 ⟨v0, rfl, ho, hb⟩; obtain ⟨A1, c1, rfl⟩ := Kd.R_slice ho; have HR := z4 ho; have HB := z4 hb; clear ho hb))
 have HM0 := z4 (World.ownsMap_made (P := Tryd.prog) (k := 3) (R := RIns) w1)
 have HR0 := z4 (zM HR.out (.map #[] 0))
 have HB0 := z4 (zA HB.out (.map #[] 0))
 have HS := z4 HB.out.size
 clear HR HB CA
 generalize w1.alloc (.map #[] 0) = W at *
 generalize w1.heap.size = mb at *
 go_loopw [7, 22] (fun v7 v22 wr => ∃ (k m : Nat) (D : SymD), k ≤ is.length ∧ v22 = .int .i64 k ∧ v7 = .int .i64 ((formsS (is.take k)).length : Nat) ∧ Aside0 (wr.ownsMap Tryd.prog 3 RIns mb m D) ∧ Aside0 (FndI D (places 0 (is.take k))) ∧ m ≤ k ∧ Aside0 (Kd.R k79 79 wr w.heap.size (fun _ => True) (.slice A1 is.length c1) is) ∧ Aside0 (Below w.heap.size w wr)) (fun _ v22 _ => is.length - (intOf v22).toNat)
 case atStart => exact ⟨0, 0, _, Nat.zero_le _, rfl, rfl, HM0, ⟨fndI_nil⟩, Nat.le_refl _, HR0, HB0⟩
 case round =>
  clear HR0 HB0 HM0
  obtain ⟨k, m, D, hk, rfl, rfl, HM, HF, hmk, HR, HB⟩ := hrel
  by_cases hlt : k < is.length
  case pos =>
   obtain ⟨ad, rfl, hx0, hx1, hx2, hx3⟩ := at_T79 (zT HR.out).2.2 (k : Int) (by omega) (by omega)
   have hrd : rd_T79 is (k : Int) = is[k] := by simp [rd_T79, List.getD_eq_getElem?_getD, List.getElem?_eq_getElem hlt]
   rw [hrd] at hx0 hx1 hx2 hx3
   simp only [Int.toNat_natCast] at hx0 hx1 hx2 hx3
   have OK := z4 (HOK.out _ (List.getElem_mem hlt))
   have hfp := formS_pos OK.out
   have hsz := formS_size OK.out
   have hall : (formsS (is.take k)).length ≤ 10 * k := by
    have := forms_le (is.take k) (fun i hi => HOK.out i (List.mem_of_mem_take hi))
    rw [z9b] at this
    omega
   have hnew : ((places 0 (is.take k)).any fun q => decide (q.1 = ((formsS (is.take k)).length : Nat))) = false := by
    rw [List.any_eq_false]
    intro q hq
    have := places_lt _ 0 (fun i hi => HOK.out i (List.mem_of_mem_take hi)) q hq
    simp only [decide_eq_true_eq]
    omega
   have hF2 := fndI_put (i := is[k]) HF.out hnew
   have hpl : places 0 (is.take (k + 1)) = places 0 (is.take k) ++ [((((formsS (is.take k)).length : Nat) : Int), is[k])] := by rw [List.take_succ_eq_append_getElem hlt, places_append, Nat.zero_add]; rfl
   have hfl : (formsS (is.take (k + 1))).length = (formsS (is.take k)).length + (formS is[k]).length := by rw [List.take_succ_eq_append_getElem hlt, formsS_append, List.length_append]; simp [formsS]
   rw [← hpl] at hF2
   have HF2 := z4 hF2
   have HFL := z4 hfl
   generalize is[k] = i at *
   generalize hp : (formsS (is.take k)).length = p at *
   have hkey : keyOf Tryd.prog 3 (.int .i64 (p : Int)) = some (insKey p) := insKey_of (by omega) (by omega)
   have ew : wrap64 ((p : Int) + size (shp i.f0)) = ((p + (formS i).length : Nat) : Int) := by rw [hsz, wrap64_id (by omega) (by omega)]; omega
   have e2 : wrap64 ((k : Int) + 1) = ((k + 1 : Nat) : Int) := by clear ew; rw [wrap64_id (by omega) (by omega)]; omega
   have hlk : (k : Int) < (is.length : Int) := by omega
   clear HF hF2 hnew hpl hfl hrd hall hsz
   go_wp2_with (first
    | (at_mapUpdate; refine wpList_mapUpdate_own _ rfl _ _ _ 75 rfl 3 79 ins_law Tryd.underlying75 _ mb m _ rfl (by repeat (first | exact HM.out | apply World.ownsMap.drew | apply World.ownsMap.alloc)) (by unfold maxLen; omega) _ _ _ rfl rfl hkey _ [] (RIns_ins i) ?_; intro w2 hown2 hgrow2; have HM2 := z4 hown2; have HB2 := z4 (sym_grown (w := w) hgrow2 HS.out (zA HB.out _)); have HR2 := z4 (R_mapI (zM HR.out _) (World.ownsMap.alloc HM.out _) hgrow2); have BX2 := z4 (blk_grown (blk_new wr (.cells #[.int .i64 i.f0, .int .i64 i.f1, .int .i64 i.f2, .int .i64 i.f3] 79)) hgrow2 (fun e => by have := HM.out.lt; injection e with e; omega)); have kb0 : w2.cell? ⟨wr.heap.size, 0, none⟩ = some (.int .i64 i.f0) := (zC BX2.out 0).trans rfl; clear hown2 hgrow2)
    | (go_at_call 53; (with_reducible refine (size_c (HG.out.below HB2.out rfl) i.f0).mono ?_); rintro e w3 ⟨rfl, hb⟩; have HM3 := z4 (map_below HM2.out hb); have HB3 := z4 (below_then HB2.out HB2.out.size hb); have HR3 := z4 (zV HR2.out hb); clear hb))
   refine ⟨⟨k + 1, m + 1, _, by omega, by first | rfl | rw [e2], by first | rfl | (rw [HFL.out]; rw [ew]) | rw [HFL.out], HM3, HF2, by omega, HR3, HB3⟩, ?_⟩
   first | (rw [e2]; simp [intOf]; omega) | (simp [intOf]; omega)
  case neg =>
   obtain rfl : k = is.length := by omega
   rw [List.take_length] at HF
   go_wp2
   go_ret2
   exact ⟨mb, m, D, rfl, HM.out, HF.out, by omega, HS.out, HB.out⟩
end Go.Proofs.YtimhcpmfhebbhaaDoor.M
namespace Go.Proofs.YtimhcpmfhebbhaaDoor.M
set_option maxRecDepth 100000
open Go.RowKit Go.Proofs.YtimhcpmfhebbhaaDoorW.PrintWords Go.Proofs.YtimhcpmfhebbhaaDoorW.PrintLast Go.Proofs.YtimhcpmfhebbhaaDoor.Num Go.Proofs.YtimhcpmfhebbhaaDoor.Seven Go.Proofs.YtimhcpmfhebbhaaDoor.Ins
set_option linter.unusedVariables false
set_option linter.unusedSimpArgs false
theorem shapeOf_still (op : Int) (w : World) (hG : Glob w) : Calls Tryd.prog 76 #[.int .i64 op] w fun e w' => e = .returned (.int .u8 (shp op)) ∧ w' = w := by
 unfold shp
 by_cases c0 : op < 0
 ·rw [if_pos c0]
  clear hG
  go_enter Tryd.func76, Tryd.ntmps76
  go_wp2
  all_goals go_ret
  all_goals exact ⟨rfl, rfl⟩
 ·rw [if_neg c0]
  by_cases c1 : op ≥ 34
  ·rw [if_pos c1]
   clear hG
   go_enter Tryd.func76, Tryd.ntmps76
   go_wp2
   all_goals go_ret
   all_goals exact ⟨rfl, rfl⟩
  ·rw [if_neg c1]
   obtain ⟨n, rfl⟩ := Int.eq_ofNat_of_zero_le (show 0 ≤ op by omega)
   have hn : n < 34 := by omega
   have hc := hG n hn
   have hc2 : w.cell? ⟨0, n, none⟩ = some (.int .u8 (rd shapeTab (n : Int))) := by rw [hc]; rfl
   clear hc hG
   generalize rd shapeTab (n : Int) = r at *
   go_enter Tryd.func76, Tryd.ntmps76
   go_wp2
   all_goals go_ret
   all_goals exact ⟨rfl, rfl⟩
theorem regs_still (s : Int) (h0 : 0 ≤ s) (h1 : s ≤ 10) (w : World) : Calls Tryd.prog 91 #[.int .u8 s] w fun e w' => e = .returned (.int .i64 (regs s)) ∧ w' = w := by
 rcases eleven h0 h1 with rfl | rfl | rfl | rfl | rfl | rfl | rfl | rfl | rfl | rfl | rfl <;>
  (go_enter Tryd.func91, Tryd.ntmps91; go_wp2; go_ret; exact ⟨rfl, rfl⟩)
theorem width_still (s : Int) (h0 : 0 ≤ s) (h1 : s ≤ 10) (w : World) : Calls Tryd.prog 92 #[.int .u8 s] w fun e w' => e = .returned (.int .i64 (width s)) ∧ w' = w := by
 rcases eleven h0 h1 with rfl | rfl | rfl | rfl | rfl | rfl | rfl | rfl | rfl | rfl | rfl <;>
  (go_enter Tryd.func92, Tryd.ntmps92; go_wp2; go_ret; exact ⟨rfl, rfl⟩)
theorem siz_still (s : Int) (h0 : 0 ≤ s) (h1 : s ≤ 10) (w : World) : Calls Tryd.prog 77 #[.int .u8 s] w fun e w' => e = .returned (.int .i64 (size s)) ∧ w' = w := by
 have RS := z4 (regs_still s h0 h1)
 have WS := z4 (width_still s h0 h1)
 rcases eleven h0 h1 with rfl | rfl | rfl | rfl | rfl | rfl | rfl | rfl | rfl | rfl | rfl <;>
  (go_enter Tryd.func77, Tryd.ntmps77; go_wp2_with (first | (go_at_call 91; (with_reducible refine (RS.out _).mono ?_); rintro e w' ⟨rfl, rfl⟩) | (go_at_call 92; (with_reducible refine (WS.out _).mono ?_); rintro e w' ⟨rfl, rfl⟩)); go_ret; exact ⟨by first | rfl | kernel_rfl | decide, rfl⟩)
theorem size_still (op : Int) (w : World) (hG : Glob w) : Calls Tryd.prog 53 #[.int .i64 op] w fun e w' => e = .returned (.int .i64 (size (shp op))) ∧ w' = w := by
 have h := shp_range op
 have S1 := z4 (shapeOf_still op w hG)
 have S2 := z4 (siz_still (shp op) h.1 h.2 w)
 clear hG h
 go_enter Tryd.func53, Tryd.ntmps53
 go_wp2_with (first | (go_at_call 76; (with_reducible refine S1.out.mono ?_); rintro e w' ⟨rfl, rfl⟩) | (go_at_call 77; (with_reducible refine S2.out.mono ?_); rintro e w' ⟨rfl, rfl⟩))
 go_ret
 exact ⟨rfl, rfl⟩
end Go.Proofs.YtimhcpmfhebbhaaDoor.M
namespace Go.Proofs.YtimhcpmfhebbhaaDoor.M
open Go.RowKit Go.Proofs.YtimhcpmfhebbhaaDoorW.PrintWords Go.Proofs.YtimhcpmfhebbhaaDoorW.PrintLast
set_option linter.unusedVariables false
set_option linter.unusedSimpArgs false
def cotterref08_Starts.l0 : Nat → List (S79) → List Int → Int → Int → Option (List Int × Bool)
 | 0, _, _, _, _ => none
 | k + 1, x4, x6, x7, x8 => if x8 < (x4.length : Int) then (if x6.length < 17592186044416 then (if 0 ≤ x8 then ((cotterref03_Size.f k ((rd_T79 x4 x8).f0)).bind fun t189 => (cotterref08_Starts.l0 k x4 (x6 ++ [x7]) (wrap64 (x7 + t189)) (wrap64 (x8 + 1)))) else (none)) else (none)) else (some (x6, true))
def cotterref08_Starts.f (k : Nat) (a0 : ByteArray) : Option (List Int × Bool) := (cotterref03_All.f k a0).bind fun bt181 => (if bt181.2 = 0 then (cotterref08_Starts.l0 k bt181.1 ([] : List Int) 0 0) else (some (([] : List Int), false)))
set_option maxHeartbeats 8000000 in
set_option maxRecDepth 100000 in
theorem cotterref08_Starts.calls (k : Nat) (a0 : ByteArray) (r1 : List Int) (r2 : Bool) (w : World) (h : cotterref08_Starts.f k a0 = some (r1, r2)) :
 Calls Tryd.prog 19 #[.string a0] w fun e w' => ∃ v0_ : Value, e = .returned (.tuple #[v0_, .bool r2]) ∧ Kd.R (Kd.int .i64) 3 w' w.heap.size (fun _ => True) v0_ r1 ∧ Below w.heap.size w w' := by
 have HB := z4 (Below.refl w.heap.size w)
 have H : ((cotterref03_All.f k a0).bind fun bt181 => (if bt181.2 = 0 then (cotterref08_Starts.l0 k bt181.1 ([] : List Int) 0 0) else (some (([] : List Int), false)))) = some (r1, r2) := h
 clear h
 replace H := z8 H
 obtain ⟨⟨t181, t182⟩, A20, H⟩ := H
 replace H : (if t182 = 0 then (cotterref08_Starts.l0 k t181 ([] : List Int) 0 0) else (some (([] : List Int), false))) = some (r1, r2) := H
 have A2 := z4 A20
 clear A20
 by_cases c3 : t182 = 0
 ·rw [if_pos c3] at H
  have c3b0 : (t182 == 0) = true := z5 c3
  have c3b1 : (t182 != 0) = false := z6 c3
  clear c3
  have H' := z4 H
  clear H
  go_enter Tryd.func19, Tryd.ntmps19
  go_wp2_with (first | ((with_reducible refine gate_callee (f := 38) rfl ?_); refine goesL_ (some 11) rfl rfl Tryd.func38 (by kernel_rfl) rfl #[.string a0] rfl (by (try simp only [z9, List.map_cons, List.map_nil]); first | done | rfl | (simp only [z9a, z9b]; rfl)) ?_; (with_reducible refine (cotterref03_All.calls k a0 t181 t182 _ A2.out).mono ?_); rintro e w4 ⟨v183, rfl, ho0, hb⟩; refine ⟨_, rfl, ?_⟩; have n0_ := z4 (zU ho0 (zL (by repeat (first | exact HB.out | apply zA | apply zB | apply zD)))); have n1_ := z4 (zK (by repeat (first | exact HB.out | apply zA | apply zB | apply zD)) hb); clear HB; have HO184 := n0_; have HB := n1_; clear n0_ n1_; (try clear hb); (try clear hb2); (try clear hk); (try clear hi); (try clear ho0)))
  go_loopg [6, 7, 8] k (fun kq v6 v7 v8 w' => ∃ (x6_1 : List Int) (x7_1 : Int) (x8_1 : Int), v7 = .int .i64 x7_1 ∧ v8 = .int .i64 x8_1 ∧ Aside0 (cotterref08_Starts.l0 kq t181 x6_1 x7_1 x8_1 = some (r1, r2)) ∧ Aside0 (kq ≤ k) ∧ Aside0 (Kd.R k79 79 w' w.heap.size (fun _ => True) v183 t181) ∧ Aside0 (Kd.R (Kd.int .i64) 3 w' w.heap.size (fun _ => True) v6 x6_1) ∧ Aside0 (Below w.heap.size w w'))
  case atStart => exact ⟨(([] : List Int)), (0), (0), (by first | rfl | (simp; done) | (simp [*]; done)), (by first | rfl | (simp; done) | (simp [*]; done)), H', ⟨Nat.le_refl _⟩, ⟨by (with_reducible repeat (first | apply zM | apply zN | apply zO)); exact HO184.out⟩, ⟨by first | exact Kd.R_nil _ _ _ _ _ | exact Kd.N_nil _ _ _ _ _ | exact Kd.V_nil _ _ _ _ _ | exact Kd.Q_nil _ _ _ _ _ | exact Kd.S_nil _ _ _ _ _⟩, ⟨by repeat (first | exact HB.out | apply zA | apply zB | apply zD)⟩⟩
  case round =>
   clear H'
   try clear c1
   try clear p2
   try clear c3
   try clear c3b0
   try clear c3b1
   obtain ⟨x6_1, x7_1, x8_1, rfl, rfl, HA, HK1, HO_4, HO_6, HB⟩ := hrel
   cases gk with
   | zero => exact absurd HA.out (by simp [cotterref08_Starts.l0])
   | succ k1 =>
    have H := HA.out
    clear HA
    simp only [cotterref08_Starts.l0] at H
    by_cases c5 : x8_1 < (t181.length : Int)
    ·rw [if_pos c5] at H
     have c5b0 : decide (x8_1 < (t181.length : Int)) = true := decide_eq_true c5
     clear c5
     by_cases c6 : x6_1.length < 17592186044416
     ·rw [if_pos c6] at H
      have LMc6 := z4 c6
      clear c6
      obtain ⟨y185, hy185⟩ : ∃ y_ : List Int, y_ = (x6_1 ++ [x7_1]) := ⟨_, rfl⟩
      replace H : (if 0 ≤ x8_1 then ((cotterref03_Size.f k1 ((rd_T79 t181 x8_1).f0)).bind fun t189 => (cotterref08_Starts.l0 k1 t181 y185 (wrap64 (x7_1 + t189)) (wrap64 (x8_1 + 1)))) else (none)) = some (r1, r2) := by first | (rw [hy185]; with_reducible exact H) | (have H2_ := (Option.bind_some _ _).symm.trans H; rw [hy185]; with_reducible exact H2_) | (have H2_ := (Option.bind_some _ _).symm.trans H; with_reducible exact H2_) | with_reducible exact H | (rw [hy185]; exact H) | exact H
      have Ny185 := z4 hy185
      clear hy185
      by_cases c7 : 0 ≤ x8_1
      ·rw [if_pos c7] at H
       have c7b0 : decide (0 ≤ x8_1) = true := decide_eq_true c7
       clear c7
       replace H := z8 H
       obtain ⟨t189, A80, H⟩ := H
       replace H : (cotterref08_Starts.l0 k1 t181 y185 (wrap64 (x7_1 + t189)) (wrap64 (x8_1 + 1))) = some (r1, r2) := H
       have A8 := z4 A80
       clear A80
       have H' := z4 H
       clear H
       obtain ⟨Ao9, co9, eo9⟩ := Kd.R_slice HO_4.out
       subst eo9
       go_wp2_with (first | ((with_reducible refine gate_builtin (b := .append) (xs := #[.tmp 22, .tmp 24]) rfl ?_); at_builtin; refine Kd.R_append (Kd.int .i64) (w0 := w) w.heap.size rfl (.tmp 22) (.tmp 24) 40 3 (.int .i64 0) 8 rfl Tryd.underlying40 info3 rfl (by decide) (by omega) u6 x6_1 x7_1 [.int .i64 x7_1] (fun _ => True) (fun _ => False) rfl rfl ?aP (fun _ hk => hk.elim) ?aF ?aO ?aB ?aS ?aL ?_; (case aP => exact rfl); (case aB => exact (by repeat (first | exact HB.out | apply zA | apply zB | apply zD))); (case aF => exact (fun _ _ => trivial)); (case aO => exact (by (with_reducible repeat (first | apply zM | apply zN | apply zO)); exact HO_6.out)); (case aS => exact (zL (by repeat (first | exact HB.out | apply zA | apply zB | apply zD)))); (case aL => have := LMc6.out; omega); intro v186 w10 ho hb hg hat; rw [← Ny185.out] at ho; have n0_ := z4 (Kd.R_over' (by (with_reducible repeat (first | apply zM | apply zN | apply zO)); exact HO_4.out) (Kd.R_typed (by (with_reducible repeat (first | apply zM | apply zN | apply zO)); exact HO_6.out)) (by decide) hg); have n1_ := z4 (hb); have n2_ := z4 (ho); clear HO_4; clear HB; clear HO_6; have HO_4 := n0_; have HB := n1_; have HO187 := n2_; clear n0_ n1_ n2_; clear ho hb hg hat; have p188 : 0 ≤ (x8_1 : Int) := of_decide_eq_true (by first | (with_reducible assumption) | assumption); have q188 : x8_1 < (t181.length : Int) := of_decide_eq_true (by first | (with_reducible assumption) | assumption); obtain ⟨ad188, e188, hx188_0, hx188_1, hx188_2, hx188_3⟩ := at_T79 (zT HO_4.out).2.2 x8_1 p188 q188; cases e188; replace p188 := eq_true p188; replace q188 := eq_true q188) | ((with_reducible refine gate_callee (f := 39) rfl ?_); refine goesL_ (some 32) rfl rfl Tryd.func39 (by kernel_rfl) rfl #[.int .i64 ((rd_T79 t181 x8_1).f0)] rfl (by (try simp only [z9, List.map_cons, List.map_nil]); first | done | rfl | (simp only [z9a, z9b]; rfl)) ?_; (with_reducible refine (cotterref03_Size.calls k1 ((rd_T79 t181 x8_1).f0) t189 _ A8.out).mono ?_); rintro e w' ⟨rfl, ⟨nd, rfl⟩⟩; refine ⟨_, rfl, ?_⟩))
       go_roundg k1
       case measure => have := HK1.out; omega
       case rel => exact ⟨(y185), (wrap64 (x7_1 + t189)), (wrap64 (x8_1 + 1)), (by first | rfl | (simp; done) | (simp [*]; done)), (by first | rfl | (simp; done) | (simp [*]; done)), H', ⟨by have := HK1.out; omega⟩, ⟨by (with_reducible repeat (first | apply zM | apply zN | apply zO)); exact HO_4.out⟩, ⟨by (with_reducible repeat (first | apply zM | apply zN | apply zO)); exact HO187.out⟩, ⟨by repeat (first | exact HB.out | apply zA | apply zB | apply zD)⟩⟩
      ·rw [if_neg c7] at H
       exact absurd H (by simp)
     ·rw [if_neg c6] at H
      exact absurd H (by simp)
    ·rw [if_neg c5] at H
     have c5b0 : decide (x8_1 < (t181.length : Int)) = false := decide_eq_false c5
     clear c5
     simp only [Option.some.injEq, Prod.mk.injEq] at H
     obtain ⟨rfl, rfl⟩ := H
     obtain ⟨Ao11, co11, eo11⟩ := Kd.R_slice HO_4.out
     subst eo11
     go_wp2
     go_ret2
     exact ⟨_, by first | rfl | (simp [errW_none, errW_some] <;> rfl) | (simp [*, errW_none, errW_some] <;> rfl), by (with_reducible repeat (first | apply zM | apply zN | apply zO)); exact HO_6.out, by repeat (first | exact HB.out | apply zA | apply zB | apply zD)⟩
 ·rw [if_neg c3] at H
  have c3b0 : (t182 == 0) = false := z7 c3
  have c3b1 : (t182 != 0) = true := bne_iff_ne.mpr c3
  simp only [Option.some.injEq, Prod.mk.injEq] at H
  obtain ⟨rfl, rfl⟩ := H
  go_enter Tryd.func19, Tryd.ntmps19
  go_wp2_with (first | ((with_reducible refine gate_callee (f := 38) rfl ?_); refine goesL_ (some 11) rfl rfl Tryd.func38 (by kernel_rfl) rfl #[.string a0] rfl (by (try simp only [z9, List.map_cons, List.map_nil]); first | done | rfl | (simp only [z9a, z9b]; rfl)) ?_; (with_reducible refine (cotterref03_All.calls k a0 t181 t182 _ A2.out).mono ?_); rintro e w12 ⟨v183, rfl, ho0, hb⟩; refine ⟨_, rfl, ?_⟩; have n0_ := z4 (zU ho0 (zL (by repeat (first | exact HB.out | apply zA | apply zB | apply zD)))); have n1_ := z4 (zK (by repeat (first | exact HB.out | apply zA | apply zB | apply zD)) hb); clear HB; have HO184 := n0_; have HB := n1_; clear n0_ n1_; (try clear hb); (try clear hb2); (try clear hk); (try clear hi); (try clear ho0)))
  go_ret2
  exact ⟨_, by first | rfl | (simp [errW_none, errW_some] <;> rfl) | (simp [*, errW_none, errW_some] <;> rfl), by first | exact Kd.R_nil _ _ _ _ _ | exact Kd.N_nil _ _ _ _ _ | exact Kd.V_nil _ _ _ _ _ | exact Kd.Q_nil _ _ _ _ _ | exact Kd.S_nil _ _ _ _ _, by repeat (first | exact HB.out | apply zA | apply zB | apply zD)⟩
def cotterref08_has.l0 : Nat → List Int → Int → Int → Option (Bool)
 | 0, _, _, _ => none
 | k + 1, x0, x1, x5 => if x5 < (x0.length : Int) then (if 0 ≤ x5 then (if (rd x0 x5) = x1 then (some true) else (cotterref08_has.l0 k x0 x1 (wrap64 (x5 + 1)))) else (none)) else (some false)
def cotterref08_has.f (k : Nat) (l0 : List Int) (a1 : Int) : Option (Bool) := cotterref08_has.l0 k l0 a1 0
set_option maxHeartbeats 8000000 in
set_option maxRecDepth 100000 in
theorem cotterref08_has.calls (k : Nat) (A0 : Option Addr) (c0 : Nat) (l0 : List Int) (a1 : Int) (r : Bool) (w : World) (hr0 : Kd.C (Kd.int .i64) w A0 l0.length l0) (hc0 : l0.length ≤ c0) (h : cotterref08_has.f k l0 a1 = some r) :
 Calls Tryd.prog 46 #[.slice A0 l0.length c0, .int .i64 a1] w fun e w' => e = .returned (.bool r) ∧ Drawn0 w w' := by
 have HR0 := z4 hr0
 have HC0 := z4 hc0
 clear hr0 hc0
 have H : (cotterref08_has.l0 k l0 a1 0) = some r := h
 clear h
 have H' := z4 H
 clear H
 go_enter Tryd.func46, Tryd.ntmps46
 go_wp2
 go_loopg [5] k (fun kq v5 w' => ∃ (x5_1 : Int), v5 = .int .i64 x5_1 ∧ Aside0 (cotterref08_has.l0 kq l0 a1 x5_1 = some r) ∧ Aside0 (kq ≤ k) ∧ Drawn0 w w')
 case atStart => exact ⟨(0), (by first | rfl | (simp; done) | (simp [*]; done)), H', ⟨Nat.le_refl _⟩, by repeat (first | exact Drawn0.refl _ | apply Drawn0.step)⟩
 case round =>
  clear H'
  try clear p2
  obtain ⟨x5_1, rfl, HA, HK1, ⟨m1, rfl⟩⟩ := hrel
  cases gk with
  | zero => exact absurd HA.out (by simp [cotterref08_has.l0])
  | succ k1 =>
   have H := HA.out
   clear HA
   simp only [cotterref08_has.l0] at H
   by_cases c3 : x5_1 < (l0.length : Int)
   ·rw [if_pos c3] at H
    have c3b0 : decide (x5_1 < (l0.length : Int)) = true := decide_eq_true c3
    clear c3
    by_cases c4 : 0 ≤ x5_1
    ·rw [if_pos c4] at H
     have c4b0 : decide (0 ≤ x5_1) = true := decide_eq_true c4
     clear c4
     by_cases c5 : (rd l0 x5_1) = a1
     ·rw [if_pos c5] at H
      have c5b0 : ((rd l0 x5_1) == a1) = true := z5 c5
      have c5b1 : ((rd l0 x5_1) != a1) = false := z6 c5
      clear c5
      obtain rfl := Option.some.inj H
      have p190 : 0 ≤ (x5_1 : Int) := of_decide_eq_true (by first | (with_reducible assumption) | assumption)
      have q190 : x5_1 < (l0.length : Int) := of_decide_eq_true (by first | (with_reducible assumption) | assumption)
      obtain ⟨ad190, e190, hx190_0⟩ := Kd.at_int HR0.out x5_1 p190 q190
      cases e190
      replace p190 := eq_true p190
      replace q190 := eq_true q190
      go_wp2
      go_ret
      exact ⟨by first | rfl | (simp; done) | (simp [*]; done), by repeat (first | exact Drawn0.refl _ | apply Drawn0.step)⟩
     ·rw [if_neg c5] at H
      have c5b0 : ((rd l0 x5_1) == a1) = false := z7 c5
      have c5b1 : ((rd l0 x5_1) != a1) = true := bne_iff_ne.mpr c5
      have H' := z4 H
      clear H
      have p190 : 0 ≤ (x5_1 : Int) := of_decide_eq_true (by first | (with_reducible assumption) | assumption)
      have q190 : x5_1 < (l0.length : Int) := of_decide_eq_true (by first | (with_reducible assumption) | assumption)
      obtain ⟨ad190, e190, hx190_0⟩ := Kd.at_int HR0.out x5_1 p190 q190
      cases e190
      replace p190 := eq_true p190
      replace q190 := eq_true q190
      go_wp2
      go_roundg k1
      case measure => have := HK1.out; omega
      case rel => exact ⟨(wrap64 (x5_1 + 1)), (by first | rfl | (simp; done) | (simp [*]; done)), H', ⟨by have := HK1.out; omega⟩, by repeat (first | exact Drawn0.refl _ | apply Drawn0.step)⟩
    ·rw [if_neg c4] at H
     exact absurd H (by simp)
   ·rw [if_neg c3] at H
    have c3b0 : decide (x5_1 < (l0.length : Int)) = false := decide_eq_false c3
    clear c3
    obtain rfl := Option.some.inj H
    go_wp2
    go_ret
    exact ⟨by first | rfl | (simp; done) | (simp [*]; done), by repeat (first | exact Drawn0.refl _ | apply Drawn0.step)⟩
def cotterref06_named.f (a0 : ByteArray) : Option (Bool) := if (a0.size : Int) ≥ 1 then (some (decide ((a0.size : Int) ≤ 28))) else (some false)
set_option maxHeartbeats 8000000 in
set_option maxRecDepth 100000 in
theorem cotterref06_named.calls (a0 : ByteArray) (r : Bool) (w : World) (h : cotterref06_named.f a0 = some r) :
 Calls Tryd.prog 71 #[.string a0] w fun e w' => e = .returned (.bool r) ∧ Drawn0 w w' := by
 have H : (if (a0.size : Int) ≥ 1 then (some (decide ((a0.size : Int) ≤ 28))) else (some false)) = some r := h
 clear h
 by_cases c2 : (a0.size : Int) ≥ 1
 ·rw [if_pos c2] at H
  have c2b0 : decide (1 ≤ (a0.size : Int)) = true := decide_eq_true c2
  have c2b1 : decide (1 ≤ a0.size) = true := decide_eq_true (by omega)
  clear c2
  obtain rfl := Option.some.inj H
  go_enter Tryd.func71, Tryd.ntmps71
  go_wp2
  go_ret
  exact ⟨by first | rfl | (simp; done) | (simp [*]; done), by repeat (first | exact Drawn0.refl _ | apply Drawn0.step)⟩
 ·rw [if_neg c2] at H
  have c2b0 : decide (1 ≤ (a0.size : Int)) = false := decide_eq_false c2
  have c2b1 : decide (1 ≤ a0.size) = false := decide_eq_false (by omega)
  clear c2
  obtain rfl := Option.some.inj H
  go_enter Tryd.func71, Tryd.ntmps71
  go_wp2
  go_ret
  exact ⟨by first | rfl | (simp; done) | (simp [*]; done), by repeat (first | exact Drawn0.refl _ | apply Drawn0.step)⟩
end Go.Proofs.YtimhcpmfhebbhaaDoor.M
namespace Go.Proofs.YtimhcpmfhebbhaaDoor.M
open Go.RowKit Go.Proofs.YtimhcpmfhebbhaaDoorW.PrintWords Go.Proofs.YtimhcpmfhebbhaaDoorW.PrintLast
set_option linter.unusedVariables false
set_option linter.unusedSimpArgs false
mutual
def cotterref06_Syms.l0 : Nat → List (S68) → Int → Int → Int → Option (Bool)
 | 0, _, _, _, _ => none
 | k + 1, x0, x1, x2, x7 => if x7 < (x0.length : Int) then (if 0 ≤ x7 then ((cotterref06_named.f ((rd_T68 x0 x7).f0)).bind fun t193 => (if t193 = true then (if ((rd_T68 x0 x7).f1) < 1 then (cotterref06_Syms.j1 k x0 x1 x2 x7 true ((rd_T68 x0 x7).f0) ((rd_T68 x0 x7).f1) ((rd_T68 x0 x7).f2)) else (if ((rd_T68 x0 x7).f1) > 3 then (cotterref06_Syms.j1 k x0 x1 x2 x7 true ((rd_T68 x0 x7).f0) ((rd_T68 x0 x7).f1) ((rd_T68 x0 x7).f2)) else (if ((rd_T68 x0 x7).f2) < 0 then (cotterref06_Syms.j1 k x0 x1 x2 x7 true ((rd_T68 x0 x7).f0) ((rd_T68 x0 x7).f1) ((rd_T68 x0 x7).f2)) else (if ((rd_T68 x0 x7).f1) = 2 then (if ((rd_T68 x0 x7).f2) ≥ x2 then (cotterref06_Syms.j1 k x0 x1 x2 x7 true ((rd_T68 x0 x7).f0) ((rd_T68 x0 x7).f1) ((rd_T68 x0 x7).f2)) else (cotterref06_Syms.j1 k x0 x1 x2 x7 false ((rd_T68 x0 x7).f0) ((rd_T68 x0 x7).f1) ((rd_T68 x0 x7).f2))) else (cotterref06_Syms.j1 k x0 x1 x2 x7 (decide (((rd_T68 x0 x7).f2) ≥ x1)) ((rd_T68 x0 x7).f0) ((rd_T68 x0 x7).f1) ((rd_T68 x0 x7).f2)))))) else (cotterref06_Syms.j1 k x0 x1 x2 x7 true ((rd_T68 x0 x7).f0) ((rd_T68 x0 x7).f1) ((rd_T68 x0 x7).f2)))) else (none)) else (some true)
def cotterref06_Syms.j1 : Nat → List (S68) → Int → Int → Int → Bool → ByteArray → Int → Int → Option (Bool)
 | 0, _, _, _, _, _, _, _, _ => none
 | k + 1, x0, x1, x2, x7, x63, x193000, x193001, x193002 => if x63 = true then (some false) else (cotterref06_Syms.l1 k x0 x1 x2 x7 0 x193000 x193001 x193002)
def cotterref06_Syms.l1 : Nat → List (S68) → Int → Int → Int → Int → ByteArray → Int → Int → Option (Bool)
 | 0, _, _, _, _, _, _, _, _ => none
 | k + 1, x0, x1, x2, x7, x9, x193000, x193001, x193002 => if x9 < x7 then (if 0 ≤ x9 then (if x9 < (x0.length : Int) then (if ((rd_T68 x0 x9).f0).toList = x193000.toList then (some false) else (cotterref06_Syms.l1 k x0 x1 x2 x7 (wrap64 (x9 + 1)) x193000 x193001 x193002)) else (none)) else (none)) else (cotterref06_Syms.l0 k x0 x1 x2 (wrap64 (x7 + 1)))
end
def cotterref06_Syms.f (k : Nat) (l0 : List (S68)) (a1 : Int) (a2 : Int) : Option (Bool) := if (l0.length : Int) > 1000 then (some false) else (cotterref06_Syms.l0 k l0 a1 a2 0)
set_option maxHeartbeats 8000000 in
set_option maxRecDepth 100000 in
theorem cotterref06_Syms.calls (k : Nat) (A0 : Option Addr) (c0 : Nat) (l0 : List (S68)) (a1 : Int) (a2 : Int) (r : Bool) (w : World) (hr0 : Kd.C k68 w A0 l0.length l0) (hc0 : l0.length ≤ c0) (h : cotterref06_Syms.f k l0 a1 a2 = some r) :
 Calls Tryd.prog 44 #[.slice A0 l0.length c0, .int .i64 a1, .int .i64 a2] w fun e w' => e = .returned (.bool r) ∧ Below w.heap.size w w' := by
 have hu68 := Tryd.underlying68
 have HR0 := z4 hr0
 have HC0 := z4 hc0
 clear hr0 hc0
 have HB := z4 (Below.refl w.heap.size w)
 have H : (if (l0.length : Int) > 1000 then (some false) else (cotterref06_Syms.l0 k l0 a1 a2 0)) = some r := h
 clear h
 by_cases c4 : (l0.length : Int) > 1000
 ·rw [if_pos c4] at H
  have c4b0 : decide (1000 < (l0.length : Int)) = true := decide_eq_true c4
  have c4b1 : decide (1000 < l0.length) = true := decide_eq_true (by omega)
  clear c4
  obtain rfl := Option.some.inj H
  go_enter Tryd.func44, Tryd.ntmps44
  go_wp2
  repeat (go_quiet (fail); try go_wp2)
  go_ret
  exact ⟨by first | rfl | (simp [errW_none, errW_some] <;> rfl) | (simp [*, errW_none, errW_some] <;> rfl), by repeat (first | exact HB.out | apply zA | apply zB | apply zD)⟩
 ·rw [if_neg c4] at H
  have c4b0 : decide (1000 < (l0.length : Int)) = false := decide_eq_false c4
  have c4b1 : decide (1000 < l0.length) = false := decide_eq_false (by omega)
  clear c4
  have H' := z4 H
  clear H
  go_enter Tryd.func44, Tryd.ntmps44
  go_wp2
  repeat (go_quiet (fail); try go_wp2)
  go_loopg [7] k (fun kq v7 w' => ∃ (x7_1 : Int), v7 = .int .i64 x7_1 ∧ Aside0 (cotterref06_Syms.l0 kq l0 a1 a2 x7_1 = some r) ∧ Aside0 (kq ≤ k) ∧ Aside0 (Below w.heap.size w w'))
  case atStart => exact ⟨(0), (by first | rfl | (simp; done) | (simp [*]; done)), H', ⟨Nat.le_refl _⟩, ⟨by repeat (first | exact HB.out | apply zA | apply zB | apply zD)⟩⟩
  case round =>
   clear H'
   try clear p2
   try clear c4
   try clear c4b0
   try clear c4b1
   obtain ⟨x7_1, rfl, HA, HK1, HB⟩ := hrel
   cases gk with
   | zero => exact absurd HA.out (by simp [cotterref06_Syms.l0])
   | succ k1 =>
    have H := HA.out
    clear HA
    simp only [cotterref06_Syms.l0] at H
    by_cases c5 : x7_1 < (l0.length : Int)
    ·rw [if_pos c5] at H
     have c5b0 : decide (x7_1 < (l0.length : Int)) = true := decide_eq_true c5
     clear c5
     by_cases c6 : 0 ≤ x7_1
     ·rw [if_pos c6] at H
      have c6b0 : decide (0 ≤ x7_1) = true := decide_eq_true c6
      clear c6
      have HC7 := z4 H
      clear H
      have p191 : 0 ≤ (x7_1 : Int) := of_decide_eq_true (by first | (with_reducible assumption) | assumption)
      have q191 : x7_1 < (l0.length : Int) := of_decide_eq_true (by first | (with_reducible assumption) | assumption)
      obtain ⟨ad191, e191, hx191_0, hx191_1, hx191_2⟩ := at_T68 HR0.out x7_1 p191 q191
      cases e191
      replace hx191_0 := (HB.out.cell (World.block_lt_of_cell? w _ hx191_0)).trans hx191_0
      replace hx191_1 := (HB.out.cell (World.block_lt_of_cell? w _ hx191_1)).trans hx191_1
      replace hx191_2 := (HB.out.cell (World.block_lt_of_cell? w _ hx191_2)).trans hx191_2
      replace p191 := eq_true p191
      replace q191 := eq_true q191
      go_upto_region 7 with (first | ((with_reducible refine gate_dst (N := 8) rfl ?_); refine box_event ?hg (N := 8) ?hd (cs := #[.string (⟨#[]⟩ : ByteArray), .int .i64 0, .int .i64 0]) (t := 68) ?hr ?_; (case hd => rfl); (case hg => rfl); (case hr => first | (go_simp; done) | (go_simp; rfl)); intro gb192 hg w8 hbox hb; have n0_ := z4 (zK (by repeat (first | exact HB.out | apply zA | apply zB | apply zD)) hb); have n1_ := z4 (hbox); have n2_ := z4 ((by rw [hg]; exact (zL (by repeat (first | exact HB.out | apply zA | apply zB | apply zD))) : w.heap.size ≤ gb192)); have n3_ := z4 ((by rw [hg]; exact (zL (by repeat (first | exact HB.out | apply zA | apply zB | apply zD))) : w.heap.size ≤ gb192)); clear HB; have HB := n0_; have BK192 := n1_; have GW192 := n2_; have GE192 := n3_; clear n0_ n1_ n2_ n3_; clear hb hbox hg; have hcz9_0 : w8.cell? ⟨gb192, 0, none⟩ = some (.string (⟨#[]⟩ : ByteArray)) := (zC BK192.out 0).trans rfl; have hcz9_1 : w8.cell? ⟨gb192, 1, none⟩ = some (.int .i64 0) := (zC BK192.out 1).trans rfl; have hcz9_2 : w8.cell? ⟨gb192, 2, none⟩ = some (.int .i64 0) := (zC BK192.out 2).trans rfl; have hfz9_0 := zF BK192.out 0; have hfz9_1 := zF BK192.out 1; have hfz9_2 := zF BK192.out 2))
      repeat (go_quiet (first | ((with_reducible refine gate_dst (N := 8) rfl ?_); refine box_event ?hg (N := 8) ?hd (cs := #[.string (⟨#[]⟩ : ByteArray), .int .i64 0, .int .i64 0]) (t := 68) ?hr ?_; (case hd => rfl); (case hg => rfl); (case hr => first | (go_simp; done) | (go_simp; rfl)); intro gb192 hg w8 hbox hb; have n0_ := z4 (zK (by repeat (first | exact HB.out | apply zA | apply zB | apply zD)) hb); have n1_ := z4 (hbox); have n2_ := z4 ((by rw [hg]; exact (zL (by repeat (first | exact HB.out | apply zA | apply zB | apply zD))) : w.heap.size ≤ gb192)); have n3_ := z4 ((by rw [hg]; exact (zL (by repeat (first | exact HB.out | apply zA | apply zB | apply zD))) : w.heap.size ≤ gb192)); clear HB; have HB := n0_; have BK192 := n1_; have GW192 := n2_; have GE192 := n3_; clear n0_ n1_ n2_ n3_; clear hb hbox hg; have hcz9_0 : w8.cell? ⟨gb192, 0, none⟩ = some (.string (⟨#[]⟩ : ByteArray)) := (zC BK192.out 0).trans rfl; have hcz9_1 : w8.cell? ⟨gb192, 1, none⟩ = some (.int .i64 0) := (zC BK192.out 1).trans rfl; have hcz9_2 : w8.cell? ⟨gb192, 2, none⟩ = some (.int .i64 0) := (zC BK192.out 2).trans rfl; have hfz9_0 := zF BK192.out 0; have hfz9_1 := zF BK192.out 1; have hfz9_2 := zF BK192.out 2)); go_upto_region 7 with (first | ((with_reducible refine gate_dst (N := 8) rfl ?_); refine box_event ?hg (N := 8) ?hd (cs := #[.string (⟨#[]⟩ : ByteArray), .int .i64 0, .int .i64 0]) (t := 68) ?hr ?_; (case hd => rfl); (case hg => rfl); (case hr => first | (go_simp; done) | (go_simp; rfl)); intro gb192 hg w8 hbox hb; have n0_ := z4 (zK (by repeat (first | exact HB.out | apply zA | apply zB | apply zD)) hb); have n1_ := z4 (hbox); have n2_ := z4 ((by rw [hg]; exact (zL (by repeat (first | exact HB.out | apply zA | apply zB | apply zD))) : w.heap.size ≤ gb192)); have n3_ := z4 ((by rw [hg]; exact (zL (by repeat (first | exact HB.out | apply zA | apply zB | apply zD))) : w.heap.size ≤ gb192)); clear HB; have HB := n0_; have BK192 := n1_; have GW192 := n2_; have GE192 := n3_; clear n0_ n1_ n2_ n3_; clear hb hbox hg; have hcz9_0 : w8.cell? ⟨gb192, 0, none⟩ = some (.string (⟨#[]⟩ : ByteArray)) := (zC BK192.out 0).trans rfl; have hcz9_1 : w8.cell? ⟨gb192, 1, none⟩ = some (.int .i64 0) := (zC BK192.out 1).trans rfl; have hcz9_2 : w8.cell? ⟨gb192, 2, none⟩ = some (.int .i64 0) := (zC BK192.out 2).trans rfl; have hfz9_0 := zF BK192.out 0; have hfz9_1 := zF BK192.out 1; have hfz9_2 := zF BK192.out 2)))
      (try simp only [Act.put, z1, z2, z3])
      go_cut [63] (fun v63 wc => ∃ (kq : Nat) (x63_6 : Bool), v63 = .bool x63_6 ∧ Aside0 (cotterref06_Syms.j1 kq l0 a1 a2 x7_1 x63_6 ((rd_T68 l0 x7_1).f0) ((rd_T68 l0 x7_1).f1) ((rd_T68 l0 x7_1).f2) = some r) ∧ Aside0 (kq ≤ k1) ∧ Aside0 (wc.heap[gb192]? = some (.cells #[.string ((rd_T68 l0 x7_1).f0), .int .i64 ((rd_T68 l0 x7_1).f1), .int .i64 ((rd_T68 l0 x7_1).f2)] 68 (0, 0))) ∧ Aside0 (Below w.heap.size w wc))
      case first =>
       have H := HC7.out
       clear HC7
       replace H := z8 H
       obtain ⟨t193, A100, H⟩ := H
       replace H : (if t193 = true then (if ((rd_T68 l0 x7_1).f1) < 1 then (cotterref06_Syms.j1 k1 l0 a1 a2 x7_1 true ((rd_T68 l0 x7_1).f0) ((rd_T68 l0 x7_1).f1) ((rd_T68 l0 x7_1).f2)) else (if ((rd_T68 l0 x7_1).f1) > 3 then (cotterref06_Syms.j1 k1 l0 a1 a2 x7_1 true ((rd_T68 l0 x7_1).f0) ((rd_T68 l0 x7_1).f1) ((rd_T68 l0 x7_1).f2)) else (if ((rd_T68 l0 x7_1).f2) < 0 then (cotterref06_Syms.j1 k1 l0 a1 a2 x7_1 true ((rd_T68 l0 x7_1).f0) ((rd_T68 l0 x7_1).f1) ((rd_T68 l0 x7_1).f2)) else (if ((rd_T68 l0 x7_1).f1) = 2 then (if ((rd_T68 l0 x7_1).f2) ≥ a2 then (cotterref06_Syms.j1 k1 l0 a1 a2 x7_1 true ((rd_T68 l0 x7_1).f0) ((rd_T68 l0 x7_1).f1) ((rd_T68 l0 x7_1).f2)) else (cotterref06_Syms.j1 k1 l0 a1 a2 x7_1 false ((rd_T68 l0 x7_1).f0) ((rd_T68 l0 x7_1).f1) ((rd_T68 l0 x7_1).f2))) else (cotterref06_Syms.j1 k1 l0 a1 a2 x7_1 (decide (((rd_T68 l0 x7_1).f2) ≥ a1)) ((rd_T68 l0 x7_1).f0) ((rd_T68 l0 x7_1).f1) ((rd_T68 l0 x7_1).f2)))))) else (cotterref06_Syms.j1 k1 l0 a1 a2 x7_1 true ((rd_T68 l0 x7_1).f0) ((rd_T68 l0 x7_1).f1) ((rd_T68 l0 x7_1).f2))) = some r := H
       have A10 := z4 A100
       clear A100
       by_cases c11 : t193 = true
       ·subst c11
        have H1 : (if ((rd_T68 l0 x7_1).f1) < 1 then (cotterref06_Syms.j1 k1 l0 a1 a2 x7_1 true ((rd_T68 l0 x7_1).f0) ((rd_T68 l0 x7_1).f1) ((rd_T68 l0 x7_1).f2)) else (if ((rd_T68 l0 x7_1).f1) > 3 then (cotterref06_Syms.j1 k1 l0 a1 a2 x7_1 true ((rd_T68 l0 x7_1).f0) ((rd_T68 l0 x7_1).f1) ((rd_T68 l0 x7_1).f2)) else (if ((rd_T68 l0 x7_1).f2) < 0 then (cotterref06_Syms.j1 k1 l0 a1 a2 x7_1 true ((rd_T68 l0 x7_1).f0) ((rd_T68 l0 x7_1).f1) ((rd_T68 l0 x7_1).f2)) else (if ((rd_T68 l0 x7_1).f1) = 2 then (if ((rd_T68 l0 x7_1).f2) ≥ a2 then (cotterref06_Syms.j1 k1 l0 a1 a2 x7_1 true ((rd_T68 l0 x7_1).f0) ((rd_T68 l0 x7_1).f1) ((rd_T68 l0 x7_1).f2)) else (cotterref06_Syms.j1 k1 l0 a1 a2 x7_1 false ((rd_T68 l0 x7_1).f0) ((rd_T68 l0 x7_1).f1) ((rd_T68 l0 x7_1).f2))) else (cotterref06_Syms.j1 k1 l0 a1 a2 x7_1 (decide (((rd_T68 l0 x7_1).f2) ≥ a1)) ((rd_T68 l0 x7_1).f0) ((rd_T68 l0 x7_1).f1) ((rd_T68 l0 x7_1).f2)))))) = some r := by rw [if_pos rfl] at H; exact H
        clear H
        have H := H1
        clear H1
        by_cases c12 : ((rd_T68 l0 x7_1).f1) < 1
        ·rw [if_pos c12] at H
         have c12b0 : decide (((rd_T68 l0 x7_1).f1) < 1) = true := decide_eq_true c12
         clear c12
         (first | rw [c12b0] | (simp only [i64_w, i32_w]; rw [c12b0]) | skip)
         have H' := z4 H
         clear H
         have hcz13_0 : w8.cell? ⟨gb192, 0, none⟩ = some (.string (⟨#[]⟩ : ByteArray)) := (zC BK192.out 0).trans rfl
         have hcz13_1 : w8.cell? ⟨gb192, 1, none⟩ = some (.int .i64 0) := (zC BK192.out 1).trans rfl
         have hcz13_2 : w8.cell? ⟨gb192, 2, none⟩ = some (.int .i64 0) := (zC BK192.out 2).trans rfl
         have hfz13_0 := zF BK192.out 0
         have hfz13_1 := zF BK192.out 1
         have hfz13_2 := zF BK192.out 2
         go_wp2_with (first | (go_at_call 71; (with_reducible refine (cotterref06_named.calls ((rd_T68 l0 x7_1).f0) true _ A10.out).mono ?_); rintro e w' ⟨rfl, ⟨nd, rfl⟩⟩; (try first | exact ⟨rfl, _, World.drewN_drewN _ _ _⟩ | exact ⟨rfl, _, Eq.trans (World.drewN_drewN _ _ _) (congrArg (World.drewN _) (Nat.add_assoc _ _ _))⟩)))
         repeat (go_quiet (first | (go_at_call 71; (with_reducible refine (cotterref06_named.calls ((rd_T68 l0 x7_1).f0) true _ A10.out).mono ?_); rintro e w' ⟨rfl, ⟨nd, rfl⟩⟩; (try first | exact ⟨rfl, _, World.drewN_drewN _ _ _⟩ | exact ⟨rfl, _, Eq.trans (World.drewN_drewN _ _ _) (congrArg (World.drewN _) (Nat.add_assoc _ _ _))⟩))); try go_wp2_with (first | (go_at_call 71; (with_reducible refine (cotterref06_named.calls ((rd_T68 l0 x7_1).f0) true _ A10.out).mono ?_); rintro e w' ⟨rfl, ⟨nd, rfl⟩⟩; (try first | exact ⟨rfl, _, World.drewN_drewN _ _ _⟩ | exact ⟨rfl, _, Eq.trans (World.drewN_drewN _ _ _) (congrArg (World.drewN _) (Nat.add_assoc _ _ _))⟩))))
         go_meet
         case rel => exact ⟨_, (true), (by first | rfl | (simp; done) | (simp [*]; done)), H', ⟨by have := HK1.out; first | omega | exact Nat.le_refl _⟩, ⟨by (with_reducible repeat (first | refine zH ?_ _ | refine zI ?_ | refine zG ?_ _)); refine blk_put (cs := #[.string ((rd_T68 l0 x7_1).f0), .int .i64 ((rd_T68 l0 x7_1).f1), .int .i64 0]) ?_ 2 _ rfl; (with_reducible repeat (first | refine zH ?_ _ | refine zI ?_ | refine zG ?_ _)); refine blk_put (cs := #[.string ((rd_T68 l0 x7_1).f0), .int .i64 0, .int .i64 0]) ?_ 1 _ rfl; (with_reducible repeat (first | refine zH ?_ _ | refine zI ?_ | refine zG ?_ _)); refine blk_put (cs := #[.string (⟨#[]⟩ : ByteArray), .int .i64 0, .int .i64 0]) ?_ 0 _ rfl; (with_reducible repeat (first | refine zH ?_ _ | refine zI ?_ | refine zG ?_ _)); exact BK192.out⟩, ⟨by repeat (first | exact HB.out | apply zA | apply zB | apply zD | refine zJ ?_ GE192.out)⟩⟩
        ·rw [if_neg c12] at H
         have c12b0 : decide (((rd_T68 l0 x7_1).f1) < 1) = false := decide_eq_false c12
         clear c12
         (first | rw [c12b0] | (simp only [i64_w, i32_w]; rw [c12b0]) | skip)
         by_cases c14 : ((rd_T68 l0 x7_1).f1) > 3
         ·rw [if_pos c14] at H
          have c14b0 : decide (3 < ((rd_T68 l0 x7_1).f1)) = true := decide_eq_true c14
          clear c14
          have H' := z4 H
          clear H
          have hcz15_0 : w8.cell? ⟨gb192, 0, none⟩ = some (.string (⟨#[]⟩ : ByteArray)) := (zC BK192.out 0).trans rfl
          have hcz15_1 : w8.cell? ⟨gb192, 1, none⟩ = some (.int .i64 0) := (zC BK192.out 1).trans rfl
          have hcz15_2 : w8.cell? ⟨gb192, 2, none⟩ = some (.int .i64 0) := (zC BK192.out 2).trans rfl
          have hfz15_0 := zF BK192.out 0
          have hfz15_1 := zF BK192.out 1
          have hfz15_2 := zF BK192.out 2
          go_wp2_with (first | (go_at_call 71; (with_reducible refine (cotterref06_named.calls ((rd_T68 l0 x7_1).f0) true _ A10.out).mono ?_); rintro e w' ⟨rfl, ⟨nd, rfl⟩⟩; (try first | exact ⟨rfl, _, World.drewN_drewN _ _ _⟩ | exact ⟨rfl, _, Eq.trans (World.drewN_drewN _ _ _) (congrArg (World.drewN _) (Nat.add_assoc _ _ _))⟩)))
          repeat (go_quiet (first | (go_at_call 71; (with_reducible refine (cotterref06_named.calls ((rd_T68 l0 x7_1).f0) true _ A10.out).mono ?_); rintro e w' ⟨rfl, ⟨nd, rfl⟩⟩; (try first | exact ⟨rfl, _, World.drewN_drewN _ _ _⟩ | exact ⟨rfl, _, Eq.trans (World.drewN_drewN _ _ _) (congrArg (World.drewN _) (Nat.add_assoc _ _ _))⟩))); try go_wp2_with (first | (go_at_call 71; (with_reducible refine (cotterref06_named.calls ((rd_T68 l0 x7_1).f0) true _ A10.out).mono ?_); rintro e w' ⟨rfl, ⟨nd, rfl⟩⟩; (try first | exact ⟨rfl, _, World.drewN_drewN _ _ _⟩ | exact ⟨rfl, _, Eq.trans (World.drewN_drewN _ _ _) (congrArg (World.drewN _) (Nat.add_assoc _ _ _))⟩))))
          go_meet
          case rel => exact ⟨_, (true), (by first | rfl | (simp; done) | (simp [*]; done)), H', ⟨by have := HK1.out; first | omega | exact Nat.le_refl _⟩, ⟨by (with_reducible repeat (first | refine zH ?_ _ | refine zI ?_ | refine zG ?_ _)); refine blk_put (cs := #[.string ((rd_T68 l0 x7_1).f0), .int .i64 ((rd_T68 l0 x7_1).f1), .int .i64 0]) ?_ 2 _ rfl; (with_reducible repeat (first | refine zH ?_ _ | refine zI ?_ | refine zG ?_ _)); refine blk_put (cs := #[.string ((rd_T68 l0 x7_1).f0), .int .i64 0, .int .i64 0]) ?_ 1 _ rfl; (with_reducible repeat (first | refine zH ?_ _ | refine zI ?_ | refine zG ?_ _)); refine blk_put (cs := #[.string (⟨#[]⟩ : ByteArray), .int .i64 0, .int .i64 0]) ?_ 0 _ rfl; (with_reducible repeat (first | refine zH ?_ _ | refine zI ?_ | refine zG ?_ _)); exact BK192.out⟩, ⟨by repeat (first | exact HB.out | apply zA | apply zB | apply zD | refine zJ ?_ GE192.out)⟩⟩
         ·rw [if_neg c14] at H
          have c14b0 : decide (3 < ((rd_T68 l0 x7_1).f1)) = false := decide_eq_false c14
          clear c14
          by_cases c16 : ((rd_T68 l0 x7_1).f2) < 0
          ·rw [if_pos c16] at H
           have c16b0 : decide (((rd_T68 l0 x7_1).f2) < 0) = true := decide_eq_true c16
           clear c16
           have H' := z4 H
           clear H
           have hcz17_0 : w8.cell? ⟨gb192, 0, none⟩ = some (.string (⟨#[]⟩ : ByteArray)) := (zC BK192.out 0).trans rfl
           have hcz17_1 : w8.cell? ⟨gb192, 1, none⟩ = some (.int .i64 0) := (zC BK192.out 1).trans rfl
           have hcz17_2 : w8.cell? ⟨gb192, 2, none⟩ = some (.int .i64 0) := (zC BK192.out 2).trans rfl
           have hfz17_0 := zF BK192.out 0
           have hfz17_1 := zF BK192.out 1
           have hfz17_2 := zF BK192.out 2
           go_wp2_with (first | (go_at_call 71; (with_reducible refine (cotterref06_named.calls ((rd_T68 l0 x7_1).f0) true _ A10.out).mono ?_); rintro e w' ⟨rfl, ⟨nd, rfl⟩⟩; (try first | exact ⟨rfl, _, World.drewN_drewN _ _ _⟩ | exact ⟨rfl, _, Eq.trans (World.drewN_drewN _ _ _) (congrArg (World.drewN _) (Nat.add_assoc _ _ _))⟩)))
           repeat (go_quiet (first | (go_at_call 71; (with_reducible refine (cotterref06_named.calls ((rd_T68 l0 x7_1).f0) true _ A10.out).mono ?_); rintro e w' ⟨rfl, ⟨nd, rfl⟩⟩; (try first | exact ⟨rfl, _, World.drewN_drewN _ _ _⟩ | exact ⟨rfl, _, Eq.trans (World.drewN_drewN _ _ _) (congrArg (World.drewN _) (Nat.add_assoc _ _ _))⟩))); try go_wp2_with (first | (go_at_call 71; (with_reducible refine (cotterref06_named.calls ((rd_T68 l0 x7_1).f0) true _ A10.out).mono ?_); rintro e w' ⟨rfl, ⟨nd, rfl⟩⟩; (try first | exact ⟨rfl, _, World.drewN_drewN _ _ _⟩ | exact ⟨rfl, _, Eq.trans (World.drewN_drewN _ _ _) (congrArg (World.drewN _) (Nat.add_assoc _ _ _))⟩))))
           go_meet
           case rel => exact ⟨_, (true), (by first | rfl | (simp; done) | (simp [*]; done)), H', ⟨by have := HK1.out; first | omega | exact Nat.le_refl _⟩, ⟨by (with_reducible repeat (first | refine zH ?_ _ | refine zI ?_ | refine zG ?_ _)); refine blk_put (cs := #[.string ((rd_T68 l0 x7_1).f0), .int .i64 ((rd_T68 l0 x7_1).f1), .int .i64 0]) ?_ 2 _ rfl; (with_reducible repeat (first | refine zH ?_ _ | refine zI ?_ | refine zG ?_ _)); refine blk_put (cs := #[.string ((rd_T68 l0 x7_1).f0), .int .i64 0, .int .i64 0]) ?_ 1 _ rfl; (with_reducible repeat (first | refine zH ?_ _ | refine zI ?_ | refine zG ?_ _)); refine blk_put (cs := #[.string (⟨#[]⟩ : ByteArray), .int .i64 0, .int .i64 0]) ?_ 0 _ rfl; (with_reducible repeat (first | refine zH ?_ _ | refine zI ?_ | refine zG ?_ _)); exact BK192.out⟩, ⟨by repeat (first | exact HB.out | apply zA | apply zB | apply zD | refine zJ ?_ GE192.out)⟩⟩
          ·rw [if_neg c16] at H
           have c16b0 : decide (((rd_T68 l0 x7_1).f2) < 0) = false := decide_eq_false c16
           clear c16
           by_cases c18 : ((rd_T68 l0 x7_1).f1) = 2
           ·rw [if_pos c18] at H
            have c18b0 : (((rd_T68 l0 x7_1).f1) == 2) = true := z5 c18
            have c18b1 : (((rd_T68 l0 x7_1).f1) != 2) = false := z6 c18
            clear c18
            by_cases c19 : ((rd_T68 l0 x7_1).f2) ≥ a2
            ·rw [if_pos c19] at H
             have c19b0 : decide (a2 ≤ ((rd_T68 l0 x7_1).f2)) = true := decide_eq_true c19
             clear c19
             have H' := z4 H
             clear H
             have hcz20_0 : w8.cell? ⟨gb192, 0, none⟩ = some (.string (⟨#[]⟩ : ByteArray)) := (zC BK192.out 0).trans rfl
             have hcz20_1 : w8.cell? ⟨gb192, 1, none⟩ = some (.int .i64 0) := (zC BK192.out 1).trans rfl
             have hcz20_2 : w8.cell? ⟨gb192, 2, none⟩ = some (.int .i64 0) := (zC BK192.out 2).trans rfl
             have hfz20_0 := zF BK192.out 0
             have hfz20_1 := zF BK192.out 1
             have hfz20_2 := zF BK192.out 2
             go_wp2_with (first | (go_at_call 71; (with_reducible refine (cotterref06_named.calls ((rd_T68 l0 x7_1).f0) true _ A10.out).mono ?_); rintro e w' ⟨rfl, ⟨nd, rfl⟩⟩; (try first | exact ⟨rfl, _, World.drewN_drewN _ _ _⟩ | exact ⟨rfl, _, Eq.trans (World.drewN_drewN _ _ _) (congrArg (World.drewN _) (Nat.add_assoc _ _ _))⟩)))
             repeat (go_quiet (first | (go_at_call 71; (with_reducible refine (cotterref06_named.calls ((rd_T68 l0 x7_1).f0) true _ A10.out).mono ?_); rintro e w' ⟨rfl, ⟨nd, rfl⟩⟩; (try first | exact ⟨rfl, _, World.drewN_drewN _ _ _⟩ | exact ⟨rfl, _, Eq.trans (World.drewN_drewN _ _ _) (congrArg (World.drewN _) (Nat.add_assoc _ _ _))⟩))); try go_wp2_with (first | (go_at_call 71; (with_reducible refine (cotterref06_named.calls ((rd_T68 l0 x7_1).f0) true _ A10.out).mono ?_); rintro e w' ⟨rfl, ⟨nd, rfl⟩⟩; (try first | exact ⟨rfl, _, World.drewN_drewN _ _ _⟩ | exact ⟨rfl, _, Eq.trans (World.drewN_drewN _ _ _) (congrArg (World.drewN _) (Nat.add_assoc _ _ _))⟩))))
             go_meet
             case rel => exact ⟨_, (true), (by first | rfl | (simp; done) | (simp [*]; done)), H', ⟨by have := HK1.out; first | omega | exact Nat.le_refl _⟩, ⟨by (with_reducible repeat (first | refine zH ?_ _ | refine zI ?_ | refine zG ?_ _)); refine blk_put (cs := #[.string ((rd_T68 l0 x7_1).f0), .int .i64 ((rd_T68 l0 x7_1).f1), .int .i64 0]) ?_ 2 _ rfl; (with_reducible repeat (first | refine zH ?_ _ | refine zI ?_ | refine zG ?_ _)); refine blk_put (cs := #[.string ((rd_T68 l0 x7_1).f0), .int .i64 0, .int .i64 0]) ?_ 1 _ rfl; (with_reducible repeat (first | refine zH ?_ _ | refine zI ?_ | refine zG ?_ _)); refine blk_put (cs := #[.string (⟨#[]⟩ : ByteArray), .int .i64 0, .int .i64 0]) ?_ 0 _ rfl; (with_reducible repeat (first | refine zH ?_ _ | refine zI ?_ | refine zG ?_ _)); exact BK192.out⟩, ⟨by repeat (first | exact HB.out | apply zA | apply zB | apply zD | refine zJ ?_ GE192.out)⟩⟩
            ·rw [if_neg c19] at H
             have c19b0 : decide (a2 ≤ ((rd_T68 l0 x7_1).f2)) = false := decide_eq_false c19
             clear c19
             have H' := z4 H
             clear H
             have hcz21_0 : w8.cell? ⟨gb192, 0, none⟩ = some (.string (⟨#[]⟩ : ByteArray)) := (zC BK192.out 0).trans rfl
             have hcz21_1 : w8.cell? ⟨gb192, 1, none⟩ = some (.int .i64 0) := (zC BK192.out 1).trans rfl
             have hcz21_2 : w8.cell? ⟨gb192, 2, none⟩ = some (.int .i64 0) := (zC BK192.out 2).trans rfl
             have hfz21_0 := zF BK192.out 0
             have hfz21_1 := zF BK192.out 1
             have hfz21_2 := zF BK192.out 2
             go_wp2_with (first | (go_at_call 71; (with_reducible refine (cotterref06_named.calls ((rd_T68 l0 x7_1).f0) true _ A10.out).mono ?_); rintro e w' ⟨rfl, ⟨nd, rfl⟩⟩; (try first | exact ⟨rfl, _, World.drewN_drewN _ _ _⟩ | exact ⟨rfl, _, Eq.trans (World.drewN_drewN _ _ _) (congrArg (World.drewN _) (Nat.add_assoc _ _ _))⟩)))
             repeat (go_quiet (first | (go_at_call 71; (with_reducible refine (cotterref06_named.calls ((rd_T68 l0 x7_1).f0) true _ A10.out).mono ?_); rintro e w' ⟨rfl, ⟨nd, rfl⟩⟩; (try first | exact ⟨rfl, _, World.drewN_drewN _ _ _⟩ | exact ⟨rfl, _, Eq.trans (World.drewN_drewN _ _ _) (congrArg (World.drewN _) (Nat.add_assoc _ _ _))⟩))); try go_wp2_with (first | (go_at_call 71; (with_reducible refine (cotterref06_named.calls ((rd_T68 l0 x7_1).f0) true _ A10.out).mono ?_); rintro e w' ⟨rfl, ⟨nd, rfl⟩⟩; (try first | exact ⟨rfl, _, World.drewN_drewN _ _ _⟩ | exact ⟨rfl, _, Eq.trans (World.drewN_drewN _ _ _) (congrArg (World.drewN _) (Nat.add_assoc _ _ _))⟩))))
             go_meet
             case rel => exact ⟨_, (false), (by first | rfl | (simp; done) | (simp [*]; done)), H', ⟨by have := HK1.out; first | omega | exact Nat.le_refl _⟩, ⟨by (with_reducible repeat (first | refine zH ?_ _ | refine zI ?_ | refine zG ?_ _)); refine blk_put (cs := #[.string ((rd_T68 l0 x7_1).f0), .int .i64 ((rd_T68 l0 x7_1).f1), .int .i64 0]) ?_ 2 _ rfl; (with_reducible repeat (first | refine zH ?_ _ | refine zI ?_ | refine zG ?_ _)); refine blk_put (cs := #[.string ((rd_T68 l0 x7_1).f0), .int .i64 0, .int .i64 0]) ?_ 1 _ rfl; (with_reducible repeat (first | refine zH ?_ _ | refine zI ?_ | refine zG ?_ _)); refine blk_put (cs := #[.string (⟨#[]⟩ : ByteArray), .int .i64 0, .int .i64 0]) ?_ 0 _ rfl; (with_reducible repeat (first | refine zH ?_ _ | refine zI ?_ | refine zG ?_ _)); exact BK192.out⟩, ⟨by repeat (first | exact HB.out | apply zA | apply zB | apply zD | refine zJ ?_ GE192.out)⟩⟩
           ·rw [if_neg c18] at H
            have c18b0 : (((rd_T68 l0 x7_1).f1) == 2) = false := z7 c18
            have c18b1 : (((rd_T68 l0 x7_1).f1) != 2) = true := bne_iff_ne.mpr c18
            have H' := z4 H
            clear H
            have hcz22_0 : w8.cell? ⟨gb192, 0, none⟩ = some (.string (⟨#[]⟩ : ByteArray)) := (zC BK192.out 0).trans rfl
            have hcz22_1 : w8.cell? ⟨gb192, 1, none⟩ = some (.int .i64 0) := (zC BK192.out 1).trans rfl
            have hcz22_2 : w8.cell? ⟨gb192, 2, none⟩ = some (.int .i64 0) := (zC BK192.out 2).trans rfl
            have hfz22_0 := zF BK192.out 0
            have hfz22_1 := zF BK192.out 1
            have hfz22_2 := zF BK192.out 2
            go_wp2_with (first | (go_at_call 71; (with_reducible refine (cotterref06_named.calls ((rd_T68 l0 x7_1).f0) true _ A10.out).mono ?_); rintro e w' ⟨rfl, ⟨nd, rfl⟩⟩; (try first | exact ⟨rfl, _, World.drewN_drewN _ _ _⟩ | exact ⟨rfl, _, Eq.trans (World.drewN_drewN _ _ _) (congrArg (World.drewN _) (Nat.add_assoc _ _ _))⟩)))
            repeat (go_quiet (first | (go_at_call 71; (with_reducible refine (cotterref06_named.calls ((rd_T68 l0 x7_1).f0) true _ A10.out).mono ?_); rintro e w' ⟨rfl, ⟨nd, rfl⟩⟩; (try first | exact ⟨rfl, _, World.drewN_drewN _ _ _⟩ | exact ⟨rfl, _, Eq.trans (World.drewN_drewN _ _ _) (congrArg (World.drewN _) (Nat.add_assoc _ _ _))⟩))); try go_wp2_with (first | (go_at_call 71; (with_reducible refine (cotterref06_named.calls ((rd_T68 l0 x7_1).f0) true _ A10.out).mono ?_); rintro e w' ⟨rfl, ⟨nd, rfl⟩⟩; (try first | exact ⟨rfl, _, World.drewN_drewN _ _ _⟩ | exact ⟨rfl, _, Eq.trans (World.drewN_drewN _ _ _) (congrArg (World.drewN _) (Nat.add_assoc _ _ _))⟩))))
            go_meet
            case rel => exact ⟨_, (decide (((rd_T68 l0 x7_1).f2) ≥ a1)), (by first | rfl | (simp; done) | (simp [*]; done)), H', ⟨by have := HK1.out; first | omega | exact Nat.le_refl _⟩, ⟨by (with_reducible repeat (first | refine zH ?_ _ | refine zI ?_ | refine zG ?_ _)); refine blk_put (cs := #[.string ((rd_T68 l0 x7_1).f0), .int .i64 ((rd_T68 l0 x7_1).f1), .int .i64 0]) ?_ 2 _ rfl; (with_reducible repeat (first | refine zH ?_ _ | refine zI ?_ | refine zG ?_ _)); refine blk_put (cs := #[.string ((rd_T68 l0 x7_1).f0), .int .i64 0, .int .i64 0]) ?_ 1 _ rfl; (with_reducible repeat (first | refine zH ?_ _ | refine zI ?_ | refine zG ?_ _)); refine blk_put (cs := #[.string (⟨#[]⟩ : ByteArray), .int .i64 0, .int .i64 0]) ?_ 0 _ rfl; (with_reducible repeat (first | refine zH ?_ _ | refine zI ?_ | refine zG ?_ _)); exact BK192.out⟩, ⟨by repeat (first | exact HB.out | apply zA | apply zB | apply zD | refine zJ ?_ GE192.out)⟩⟩
       ·replace c11 := Bool.eq_false_iff.mpr c11
        subst c11
        have H1 : (cotterref06_Syms.j1 k1 l0 a1 a2 x7_1 true ((rd_T68 l0 x7_1).f0) ((rd_T68 l0 x7_1).f1) ((rd_T68 l0 x7_1).f2)) = some r := by rw [if_neg (show ¬ (false = true) by decide)] at H; exact H
        clear H
        have H := H1
        clear H1
        have H' := z4 H
        clear H
        have hcz23_0 : w8.cell? ⟨gb192, 0, none⟩ = some (.string (⟨#[]⟩ : ByteArray)) := (zC BK192.out 0).trans rfl
        have hcz23_1 : w8.cell? ⟨gb192, 1, none⟩ = some (.int .i64 0) := (zC BK192.out 1).trans rfl
        have hcz23_2 : w8.cell? ⟨gb192, 2, none⟩ = some (.int .i64 0) := (zC BK192.out 2).trans rfl
        have hfz23_0 := zF BK192.out 0
        have hfz23_1 := zF BK192.out 1
        have hfz23_2 := zF BK192.out 2
        go_wp2_with (first | (go_at_call 71; (with_reducible refine (cotterref06_named.calls ((rd_T68 l0 x7_1).f0) false _ A10.out).mono ?_); rintro e w' ⟨rfl, ⟨nd, rfl⟩⟩; (try first | exact ⟨rfl, _, World.drewN_drewN _ _ _⟩ | exact ⟨rfl, _, Eq.trans (World.drewN_drewN _ _ _) (congrArg (World.drewN _) (Nat.add_assoc _ _ _))⟩)))
        repeat (go_quiet (first | (go_at_call 71; (with_reducible refine (cotterref06_named.calls ((rd_T68 l0 x7_1).f0) false _ A10.out).mono ?_); rintro e w' ⟨rfl, ⟨nd, rfl⟩⟩; (try first | exact ⟨rfl, _, World.drewN_drewN _ _ _⟩ | exact ⟨rfl, _, Eq.trans (World.drewN_drewN _ _ _) (congrArg (World.drewN _) (Nat.add_assoc _ _ _))⟩))); try go_wp2_with (first | (go_at_call 71; (with_reducible refine (cotterref06_named.calls ((rd_T68 l0 x7_1).f0) false _ A10.out).mono ?_); rintro e w' ⟨rfl, ⟨nd, rfl⟩⟩; (try first | exact ⟨rfl, _, World.drewN_drewN _ _ _⟩ | exact ⟨rfl, _, Eq.trans (World.drewN_drewN _ _ _) (congrArg (World.drewN _) (Nat.add_assoc _ _ _))⟩))))
        go_meet
        case rel => exact ⟨_, (true), (by first | rfl | (simp; done) | (simp [*]; done)), H', ⟨by have := HK1.out; first | omega | exact Nat.le_refl _⟩, ⟨by (with_reducible repeat (first | refine zH ?_ _ | refine zI ?_ | refine zG ?_ _)); refine blk_put (cs := #[.string ((rd_T68 l0 x7_1).f0), .int .i64 ((rd_T68 l0 x7_1).f1), .int .i64 0]) ?_ 2 _ rfl; (with_reducible repeat (first | refine zH ?_ _ | refine zI ?_ | refine zG ?_ _)); refine blk_put (cs := #[.string ((rd_T68 l0 x7_1).f0), .int .i64 0, .int .i64 0]) ?_ 1 _ rfl; (with_reducible repeat (first | refine zH ?_ _ | refine zI ?_ | refine zG ?_ _)); refine blk_put (cs := #[.string (⟨#[]⟩ : ByteArray), .int .i64 0, .int .i64 0]) ?_ 0 _ rfl; (with_reducible repeat (first | refine zH ?_ _ | refine zI ?_ | refine zG ?_ _)); exact BK192.out⟩, ⟨by repeat (first | exact HB.out | apply zA | apply zB | apply zD | refine zJ ?_ GE192.out)⟩⟩
      case rest =>
       clear HC7
       try clear c1
       try clear p1
       try clear q1
       try clear hx1
       try clear p2
       try clear c4
       try clear c4b0
       try clear c4b1
       try clear c5
       try clear c5b0
       try clear c6
       try clear c6b0
       try clear c11
       try clear c12
       try clear c12b0
       try clear c14
       try clear c14b0
       try clear c16
       try clear c16b0
       try clear c18
       try clear c18b0
       try clear c18b1
       try clear c19
       try clear c19b0
       try clear p19
       try clear q19
       try clear hx19
       try clear hcz13_0
       try clear hcz13_1
       try clear hcz13_2
       try clear hcz15_0
       try clear hcz15_1
       try clear hcz15_2
       try clear hcz17_0
       try clear hcz17_1
       try clear hcz17_2
       try clear hcz20_0
       try clear hcz20_1
       try clear hcz20_2
       try clear hcz21_0
       try clear hcz21_1
       try clear hcz21_2
       try clear hcz22_0
       try clear hcz22_1
       try clear hcz22_2
       try clear hcz23_0
       try clear hcz23_1
       try clear hcz23_2
       try clear hcz9_0
       try clear hcz9_1
       try clear hcz9_2
       try clear hfz13_0
       try clear hfz13_1
       try clear hfz13_2
       try clear hfz15_0
       try clear hfz15_1
       try clear hfz15_2
       try clear hfz17_0
       try clear hfz17_1
       try clear hfz17_2
       try clear hfz20_0
       try clear hfz20_1
       try clear hfz20_2
       try clear hfz21_0
       try clear hfz21_1
       try clear hfz21_2
       try clear hfz22_0
       try clear hfz22_1
       try clear hfz22_2
       try clear hfz23_0
       try clear hfz23_1
       try clear hfz23_2
       try clear hfz9_0
       try clear hfz9_1
       try clear hfz9_2
       try clear hx191_0
       try clear hx191_1
       try clear hx191_2
       try clear p191
       try clear p2
       try clear q191
       obtain ⟨kq, x63_6, rfl, HA, HJ6, BK192, HB⟩ := hcut
       cases kq with
       | zero => exact absurd HA.out (by simp [cotterref06_Syms.j1])
       | succ kj6 =>
        have H := HA.out
        clear HA
        simp only [cotterref06_Syms.j1] at H
        by_cases c24 : x63_6 = true
        ·subst c24
         have H1 : (some false) = some r := by rw [if_pos rfl] at H; exact H
         clear H
         have H := H1
         clear H1
         obtain rfl := Option.some.inj H
         go_wp2
         repeat (go_quiet (fail); try go_wp2)
         go_ret
         exact ⟨by first | rfl | (simp [errW_none, errW_some] <;> rfl) | (simp [*, errW_none, errW_some] <;> rfl), by repeat (first | exact HB.out | apply zA | apply zB | apply zD | refine zJ ?_ GE192.out)⟩
        ·replace c24 := Bool.eq_false_iff.mpr c24
         subst c24
         have H1 : (cotterref06_Syms.l1 kj6 l0 a1 a2 x7_1 0 ((rd_T68 l0 x7_1).f0) ((rd_T68 l0 x7_1).f1) ((rd_T68 l0 x7_1).f2)) = some r := by rw [if_neg (show ¬ (false = true) by decide)] at H; exact H
         clear H
         have H := H1
         clear H1
         have H' := z4 H
         clear H
         go_wp2
         repeat (go_quiet (fail); try go_wp2)
         go_loopg [9] kj6 (fun kq v9 w' => ∃ (x9_3 : Int), v9 = .int .i64 x9_3 ∧ Aside0 (cotterref06_Syms.l1 kq l0 a1 a2 x7_1 x9_3 ((rd_T68 l0 x7_1).f0) ((rd_T68 l0 x7_1).f1) ((rd_T68 l0 x7_1).f2) = some r) ∧ Aside0 (kq ≤ kj6) ∧ Aside0 (w'.heap[gb192]? = some (.cells #[.string ((rd_T68 l0 x7_1).f0), .int .i64 ((rd_T68 l0 x7_1).f1), .int .i64 ((rd_T68 l0 x7_1).f2)] 68 (0, 0))) ∧ Aside0 (Below w.heap.size w w'))
         case atStart => exact ⟨(0), (by first | rfl | (simp; done) | (simp [*]; done)), H', ⟨Nat.le_refl _⟩, ⟨by (with_reducible repeat (first | refine zH ?_ _ | refine zI ?_ | refine zG ?_ _)); exact BK192.out⟩, ⟨by repeat (first | exact HB.out | apply zA | apply zB | apply zD | refine zJ ?_ GE192.out)⟩⟩
         case round =>
          clear H'
          try clear c1
          try clear p1
          try clear q1
          try clear hx1
          try clear c2
          try clear p2
          try clear c4
          try clear c4b0
          try clear c4b1
          try clear c5
          try clear c5b0
          try clear c6
          try clear c6b0
          try clear c11
          try clear c12
          try clear c12b0
          try clear c14
          try clear c14b0
          try clear c16
          try clear c16b0
          try clear c18
          try clear c18b0
          try clear c18b1
          try clear c19
          try clear c19b0
          try clear p19
          try clear q19
          try clear hx19
          try clear c24
          try clear hcz13_0
          try clear hcz13_1
          try clear hcz13_2
          try clear hcz15_0
          try clear hcz15_1
          try clear hcz15_2
          try clear hcz17_0
          try clear hcz17_1
          try clear hcz17_2
          try clear hcz20_0
          try clear hcz20_1
          try clear hcz20_2
          try clear hcz21_0
          try clear hcz21_1
          try clear hcz21_2
          try clear hcz22_0
          try clear hcz22_1
          try clear hcz22_2
          try clear hcz23_0
          try clear hcz23_1
          try clear hcz23_2
          try clear hcz9_0
          try clear hcz9_1
          try clear hcz9_2
          try clear hfz13_0
          try clear hfz13_1
          try clear hfz13_2
          try clear hfz15_0
          try clear hfz15_1
          try clear hfz15_2
          try clear hfz17_0
          try clear hfz17_1
          try clear hfz17_2
          try clear hfz20_0
          try clear hfz20_1
          try clear hfz20_2
          try clear hfz21_0
          try clear hfz21_1
          try clear hfz21_2
          try clear hfz22_0
          try clear hfz22_1
          try clear hfz22_2
          try clear hfz23_0
          try clear hfz23_1
          try clear hfz23_2
          try clear hfz9_0
          try clear hfz9_1
          try clear hfz9_2
          try clear hx191_0
          try clear hx191_1
          try clear hx191_2
          try clear p1
          try clear p19
          try clear p191
          try clear p2
          try clear q1
          try clear q19
          try clear q191
          obtain ⟨x9_3, rfl, HA, HK3, BK192, HB⟩ := hrel
          cases gk with
          | zero => exact absurd HA.out (by simp [cotterref06_Syms.l1])
          | succ k3 =>
           have H := HA.out
           clear HA
           simp only [cotterref06_Syms.l1] at H
           by_cases c25 : x9_3 < x7_1
           ·rw [if_pos c25] at H
            have c25b0 : decide (x9_3 < x7_1) = true := decide_eq_true c25
            clear c25
            by_cases c26 : 0 ≤ x9_3
            ·rw [if_pos c26] at H
             have c26b0 : decide (0 ≤ x9_3) = true := decide_eq_true c26
             clear c26
             by_cases c27 : x9_3 < (l0.length : Int)
             ·rw [if_pos c27] at H
              have c27b0 : decide (x9_3 < (l0.length : Int)) = true := decide_eq_true c27
              clear c27
              by_cases c28 : ((rd_T68 l0 x9_3).f0).toList = ((rd_T68 l0 x7_1).f0).toList
              ·rw [if_pos c28] at H
               have c28b0 : (((rd_T68 l0 x9_3).f0).toList == ((rd_T68 l0 x7_1).f0).toList) = true := z5 c28
               have c28b1 : (((rd_T68 l0 x9_3).f0).toList != ((rd_T68 l0 x7_1).f0).toList) = false := z6 c28
               clear c28
               obtain rfl := Option.some.inj H
               have p194 : 0 ≤ (x9_3 : Int) := of_decide_eq_true (by first | (with_reducible assumption) | assumption)
               have q194 : x9_3 < (l0.length : Int) := of_decide_eq_true (by first | (with_reducible assumption) | assumption)
               obtain ⟨ad194, e194, hx194_0, hx194_1, hx194_2⟩ := at_T68 HR0.out x9_3 p194 q194
               obtain rfl : ad191 = ad194 := (by injection e194)
               replace hx194_0 := (HB.out.cell (World.block_lt_of_cell? w _ hx194_0)).trans hx194_0
               replace hx194_1 := (HB.out.cell (World.block_lt_of_cell? w _ hx194_1)).trans hx194_1
               replace hx194_2 := (HB.out.cell (World.block_lt_of_cell? w _ hx194_2)).trans hx194_2
               replace p194 := eq_true p194
               replace q194 := eq_true q194
               have hcz29_0 : wr.cell? ⟨gb192, 0, none⟩ = some (.string ((rd_T68 l0 x7_1).f0)) := (zC BK192.out 0).trans rfl
               have hcz29_1 : wr.cell? ⟨gb192, 1, none⟩ = some (.int .i64 ((rd_T68 l0 x7_1).f1)) := (zC BK192.out 1).trans rfl
               have hcz29_2 : wr.cell? ⟨gb192, 2, none⟩ = some (.int .i64 ((rd_T68 l0 x7_1).f2)) := (zC BK192.out 2).trans rfl
               have hfz29_0 := zF BK192.out 0
               have hfz29_1 := zF BK192.out 1
               have hfz29_2 := zF BK192.out 2
               go_wp2
               repeat (go_quiet (fail); try go_wp2)
               go_ret
               exact ⟨by first | rfl | (simp [errW_none, errW_some] <;> rfl) | (simp [*, errW_none, errW_some] <;> rfl), by repeat (first | exact HB.out | apply zA | apply zB | apply zD | refine zJ ?_ GE192.out)⟩
              ·rw [if_neg c28] at H
               have c28b0 : (((rd_T68 l0 x9_3).f0).toList == ((rd_T68 l0 x7_1).f0).toList) = false := z7 c28
               have c28b1 : (((rd_T68 l0 x9_3).f0).toList != ((rd_T68 l0 x7_1).f0).toList) = true := bne_iff_ne.mpr c28
               have H' := z4 H
               clear H
               have p194 : 0 ≤ (x9_3 : Int) := of_decide_eq_true (by first | (with_reducible assumption) | assumption)
               have q194 : x9_3 < (l0.length : Int) := of_decide_eq_true (by first | (with_reducible assumption) | assumption)
               obtain ⟨ad194, e194, hx194_0, hx194_1, hx194_2⟩ := at_T68 HR0.out x9_3 p194 q194
               obtain rfl : ad191 = ad194 := (by injection e194)
               replace hx194_0 := (HB.out.cell (World.block_lt_of_cell? w _ hx194_0)).trans hx194_0
               replace hx194_1 := (HB.out.cell (World.block_lt_of_cell? w _ hx194_1)).trans hx194_1
               replace hx194_2 := (HB.out.cell (World.block_lt_of_cell? w _ hx194_2)).trans hx194_2
               replace p194 := eq_true p194
               replace q194 := eq_true q194
               have hcz30_0 : wr.cell? ⟨gb192, 0, none⟩ = some (.string ((rd_T68 l0 x7_1).f0)) := (zC BK192.out 0).trans rfl
               have hcz30_1 : wr.cell? ⟨gb192, 1, none⟩ = some (.int .i64 ((rd_T68 l0 x7_1).f1)) := (zC BK192.out 1).trans rfl
               have hcz30_2 : wr.cell? ⟨gb192, 2, none⟩ = some (.int .i64 ((rd_T68 l0 x7_1).f2)) := (zC BK192.out 2).trans rfl
               have hfz30_0 := zF BK192.out 0
               have hfz30_1 := zF BK192.out 1
               have hfz30_2 := zF BK192.out 2
               go_wp2
               repeat (go_quiet (fail); try go_wp2)
               go_roundg k3
               case measure => have := HK1.out; have := HJ6.out; have := HK3.out; omega
               case rel => exact ⟨(wrap64 (x9_3 + 1)), (by first | rfl | (simp; done) | (simp [*]; done)), H', ⟨by have := HK1.out; have := HJ6.out; have := HK3.out; omega⟩, ⟨by (with_reducible repeat (first | refine zH ?_ _ | refine zI ?_ | refine zG ?_ _)); exact BK192.out⟩, ⟨by repeat (first | exact HB.out | apply zA | apply zB | apply zD | refine zJ ?_ GE192.out)⟩⟩
             ·rw [if_neg c27] at H
              exact absurd H (by simp)
            ·rw [if_neg c26] at H
             exact absurd H (by simp)
           ·rw [if_neg c25] at H
            have c25b0 : decide (x9_3 < x7_1) = false := decide_eq_false c25
            clear c25
            have H' := z4 H
            clear H
            go_wp2
            repeat (go_quiet (fail); try go_wp2)
            go_roundg k3
            case measure => have := HK1.out; have := HJ6.out; have := HK3.out; omega
            case rel => exact ⟨(wrap64 (x7_1 + 1)), (by first | rfl | (simp; done) | (simp [*]; done)), H', ⟨by have := HK1.out; have := HJ6.out; have := HK3.out; omega⟩, ⟨by repeat (first | exact HB.out | apply zA | apply zB | apply zD | refine zJ ?_ GE192.out)⟩⟩
     ·rw [if_neg c6] at H
      exact absurd H (by simp)
    ·rw [if_neg c5] at H
     have c5b0 : decide (x7_1 < (l0.length : Int)) = false := decide_eq_false c5
     clear c5
     obtain rfl := Option.some.inj H
     go_wp2
     repeat (go_quiet (fail); try go_wp2)
     go_ret
     exact ⟨by first | rfl | (simp [errW_none, errW_some] <;> rfl) | (simp [*, errW_none, errW_some] <;> rfl), by repeat (first | exact HB.out | apply zA | apply zB | apply zD)⟩
end Go.Proofs.YtimhcpmfhebbhaaDoor.M
namespace Go.Proofs.YtimhcpmfhebbhaaDoor.M
open Go.RowKit Go.Proofs.YtimhcpmfhebbhaaDoorW.PrintWords Go.Proofs.YtimhcpmfhebbhaaDoorW.PrintLast
set_option linter.unusedVariables false
set_option linter.unusedSimpArgs false
mutual
def cotterref08_May.j0 : Nat → Bool → ByteArray → List Int → List (S68) → Option (Bool)
 | 0, _, _, _, _ => none
 | k + 1, x34, x196000, x196001, x196002 => if x34 = true then (some false) else ((cotterref08_Starts.f k x196000).bind fun bt197 => (if bt197.2 = true then ((cotterref03_All.f k x196000).bind fun bt201 => (cotterref08_May.l0 k bt197.1 bt201.1 0 0 x196000 x196001 x196002)) else (some false)))
def cotterref08_May.l0 : Nat → List Int → List (S79) → Int → Int → ByteArray → List Int → List (S68) → Option (Bool)
 | 0, _, _, _, _, _, _, _ => none
 | k + 1, x3, x5, x7, x8, x196000, x196001, x196002 => if x8 < (x5.length : Int) then (if 0 ≤ x8 then ((cotterref03_Size.f k ((rd_T79 x5 x8).f0)).bind fun t206 => ((cotterref03_Jumps.f ((rd_T79 x5 x8).f0)).bind fun t208 => (if t208 = true then ((cotterref08_has.f k x3 (wrap64 ((wrap64 (x7 + t206)) + ((rd_T79 x5 x8).f3)))).bind fun t210 => (cotterref08_May.j2 k x3 x5 (wrap64 (x7 + t206)) x8 (!t210) x196000 x196001 x196002)) else (cotterref08_May.j2 k x3 x5 (wrap64 (x7 + t206)) x8 false x196000 x196001 x196002)))) else (none)) else (cotterref08_May.l1 k x3 0 0 x196000 x196001 x196002)
def cotterref08_May.j2 : Nat → List Int → List (S79) → Int → Int → Bool → ByteArray → List Int → List (S68) → Option (Bool)
 | 0, _, _, _, _, _, _, _, _ => none
 | k + 1, x3, x5, x7, x8, x80, x196000, x196001, x196002 => if x80 = true then (some false) else (if 0 ≤ x8 then (if x8 < (x5.length : Int) then (if ((rd_T79 x5 x8).f0) = 19 then (if (wrap64 (((rd_T79 x5 x8).f3) - 1048576)) < 0 then (some false) else (if (Int.tmod (wrap64 (((rd_T79 x5 x8).f3) - 1048576)) 8) = 0 then (if (wrap64 (((rd_T79 x5 x8).f3) - 1048576)) ≥ (wrap64 (8 * (x196001.length : Int))) then (some false) else (cotterref08_May.l0 k x3 x5 x7 (wrap64 (x8 + 1)) x196000 x196001 x196002)) else (some false))) else (cotterref08_May.l0 k x3 x5 x7 (wrap64 (x8 + 1)) x196000 x196001 x196002)) else (none)) else (none))
def cotterref08_May.l1 : Nat → List Int → Int → Int → ByteArray → List Int → List (S68) → Option (Bool)
 | 0, _, _, _, _, _, _ => none
 | k + 1, x3, x10, x11, x196000, x196001, x196002 => if x11 < (x196002.length : Int) then (if 0 ≤ x11 then (if ((rd_T68 x196002 x11).f1) = 2 then (cotterref08_May.j4 k x3 x10 x11 false x196000 x196001 x196002 ((rd_T68 x196002 x11).f0) ((rd_T68 x196002 x11).f1) ((rd_T68 x196002 x11).f2)) else ((cotterref08_has.f k x3 ((rd_T68 x196002 x11).f2)).bind fun t215 => (cotterref08_May.j4 k x3 x10 x11 (!t215) x196000 x196001 x196002 ((rd_T68 x196002 x11).f0) ((rd_T68 x196002 x11).f1) ((rd_T68 x196002 x11).f2)))) else (none)) else (if x10 ≥ 1 then (some (decide (x10 ≤ 4))) else (some false))
def cotterref08_May.j4 : Nat → List Int → Int → Int → Bool → ByteArray → List Int → List (S68) → ByteArray → Int → Int → Option (Bool)
 | 0, _, _, _, _, _, _, _, _, _, _ => none
 | k + 1, x3, x10, x11, x131, x196000, x196001, x196002, x215000, x215001, x215002 => if x131 = true then (some false) else (if x215001 = 3 then (cotterref08_May.l1 k x3 (wrap64 (x10 + 1)) (wrap64 (x11 + 1)) x196000 x196001 x196002) else (cotterref08_May.l1 k x3 x10 (wrap64 (x11 + 1)) x196000 x196001 x196002))
end
def cotterref08_May.f (k : Nat) (a0_0 : ByteArray) (l0_1 : List Int) (l0_2 : List (S68)) : Option (Bool) := if (a0_0.size : Int) > 65536 then (cotterref08_May.j0 k true a0_0 l0_1 l0_2) else (if (l0_1.length : Int) > 4096 then (cotterref08_May.j0 k true a0_0 l0_1 l0_2) else ((cotterref06_Syms.f k l0_2 (a0_0.size : Int) (l0_1.length : Int)).bind fun t196 => (cotterref08_May.j0 k (!t196) a0_0 l0_1 l0_2)))
set_option maxHeartbeats 8000000 in
set_option maxRecDepth 100000 in
theorem cotterref08_May.calls (k : Nat) (a0_0 : ByteArray) (A0_1 : Option Addr) (c0_1 : Nat) (l0_1 : List Int) (A0_2 : Option Addr) (c0_2 : Nat) (l0_2 : List (S68)) (r : Bool) (w : World) (hr0_1 : Kd.C (Kd.int .i64) w A0_1 l0_1.length l0_1) (hc0_1 : l0_1.length ≤ c0_1) (hr0_2 : Kd.C k68 w A0_2 l0_2.length l0_2) (hc0_2 : l0_2.length ≤ c0_2) (h : cotterref08_May.f k a0_0 l0_1 l0_2 = some r) :
 Calls Tryd.prog 29 #[.agg #[.string a0_0, .slice A0_1 l0_1.length c0_1, .slice A0_2 l0_2.length c0_2]] w fun e w' => e = .returned (.bool r) ∧ Below w.heap.size w w' := by
 have hu25 := Tryd.underlying25
 have hu68 := Tryd.underlying68
 have HR0_1 := z4 hr0_1
 have HC0_1 := z4 hc0_1
 clear hr0_1 hc0_1
 have HR0_2 := z4 hr0_2
 have HC0_2 := z4 hc0_2
 clear hr0_2 hc0_2
 have HB := z4 (Below.refl w.heap.size w)
 have H : (if (a0_0.size : Int) > 65536 then (cotterref08_May.j0 k true a0_0 l0_1 l0_2) else (if (l0_1.length : Int) > 4096 then (cotterref08_May.j0 k true a0_0 l0_1 l0_2) else ((cotterref06_Syms.f k l0_2 (a0_0.size : Int) (l0_1.length : Int)).bind fun t196 => (cotterref08_May.j0 k (!t196) a0_0 l0_1 l0_2)))) = some r := h
 clear h
 have HC2 := z4 H
 clear H
 go_enter Tryd.func29, Tryd.ntmps29
 go_upto_region 1 with (first | ((with_reducible refine gate_dst (N := 1) rfl ?_); (try (refine gate_guard (by rfl) ?_; dsimp only)); refine box_event ?hg (N := 1) ?hd (cs := #[.string a0_0, .slice A0_1 l0_1.length c0_1, .slice A0_2 l0_2.length c0_2]) (t := 25) ?hr ?_; (case hd => rfl); (case hg => rfl); (case hr => first | (go_simp; done) | (go_simp; rfl)); intro gb195 hg w3 hbox hb; have n0_ := z4 (zK (by repeat (first | exact HB.out | apply zA | apply zB | apply zD)) hb); have n1_ := z4 (hbox); have n2_ := z4 ((by rw [hg]; exact (zL (by repeat (first | exact HB.out | apply zA | apply zB | apply zD))) : w.heap.size ≤ gb195)); have n3_ := z4 ((by rw [hg]; exact (zL (by repeat (first | exact HB.out | apply zA | apply zB | apply zD))) : w.heap.size ≤ gb195)); clear HB; have HB := n0_; have BK195 := n1_; have GW195 := n2_; have GE195 := n3_; clear n0_ n1_ n2_ n3_; clear hb hbox hg))
 (try simp only [Act.put, z1, z2, z3])
 go_cut [34] (fun v34 wc => ∃ (kq : Nat) (x34_1 : Bool), v34 = .bool x34_1 ∧ Aside0 (cotterref08_May.j0 kq x34_1 a0_0 l0_1 l0_2 = some r) ∧ Aside0 (kq ≤ k) ∧ Aside0 (wc.heap[gb195]? = some (.cells #[.string a0_0, (.slice A0_1 l0_1.length c0_1), (.slice A0_2 l0_2.length c0_2)] 25 (0, 0))) ∧ Aside0 (Below w.heap.size w wc))
 case first =>
  have H := HC2.out
  clear HC2
  by_cases c4 : (a0_0.size : Int) > 65536
  ·rw [if_pos c4] at H
   have c4b0 : decide (65536 < (a0_0.size : Int)) = true := decide_eq_true c4
   have c4b1 : decide (65536 < a0_0.size) = true := decide_eq_true (by omega)
   clear c4
   (first | rw [c4b0] | (simp only [i64_w, i32_w]; rw [c4b0]) | skip)
   have H' := z4 H
   clear H
   have hcz5_0 : w3.cell? ⟨gb195, 0, none⟩ = some (.string a0_0) := (zC BK195.out 0).trans rfl
   have hcz5_1 : w3.cell? ⟨gb195, 1, none⟩ = some (.slice A0_1 l0_1.length c0_1) := (zC BK195.out 1).trans rfl
   have hcz5_2 : w3.cell? ⟨gb195, 2, none⟩ = some (.slice A0_2 l0_2.length c0_2) := (zC BK195.out 2).trans rfl
   have hfz5_0 := zF BK195.out 0
   have hfz5_1 := zF BK195.out 1
   have hfz5_2 := zF BK195.out 2
   go_wp2
   go_meet
   case rel => exact ⟨_, (true), (by first | rfl | (simp; done) | (simp [*]; done)), H', ⟨by first | omega | exact Nat.le_refl _⟩, ⟨by (with_reducible repeat (first | refine zH ?_ _ | refine zI ?_ | refine zG ?_ _)); exact BK195.out⟩, ⟨by repeat (first | exact HB.out | apply zA | apply zB | apply zD | refine zJ ?_ GE195.out)⟩⟩
  ·rw [if_neg c4] at H
   have c4b0 : decide (65536 < (a0_0.size : Int)) = false := decide_eq_false c4
   have c4b1 : decide (65536 < a0_0.size) = false := decide_eq_false (by omega)
   clear c4
   (first | rw [c4b0] | (simp only [i64_w, i32_w]; rw [c4b0]) | skip)
   by_cases c6 : (l0_1.length : Int) > 4096
   ·rw [if_pos c6] at H
    have c6b0 : decide (4096 < (l0_1.length : Int)) = true := decide_eq_true c6
    have c6b1 : decide (4096 < l0_1.length) = true := decide_eq_true (by omega)
    clear c6
    have H' := z4 H
    clear H
    have hcz7_0 : w3.cell? ⟨gb195, 0, none⟩ = some (.string a0_0) := (zC BK195.out 0).trans rfl
    have hcz7_1 : w3.cell? ⟨gb195, 1, none⟩ = some (.slice A0_1 l0_1.length c0_1) := (zC BK195.out 1).trans rfl
    have hcz7_2 : w3.cell? ⟨gb195, 2, none⟩ = some (.slice A0_2 l0_2.length c0_2) := (zC BK195.out 2).trans rfl
    have hfz7_0 := zF BK195.out 0
    have hfz7_1 := zF BK195.out 1
    have hfz7_2 := zF BK195.out 2
    go_wp2
    go_meet
    case rel => exact ⟨_, (true), (by first | rfl | (simp; done) | (simp [*]; done)), H', ⟨by first | omega | exact Nat.le_refl _⟩, ⟨by (with_reducible repeat (first | refine zH ?_ _ | refine zI ?_ | refine zG ?_ _)); exact BK195.out⟩, ⟨by repeat (first | exact HB.out | apply zA | apply zB | apply zD | refine zJ ?_ GE195.out)⟩⟩
   ·rw [if_neg c6] at H
    have c6b0 : decide (4096 < (l0_1.length : Int)) = false := decide_eq_false c6
    have c6b1 : decide (4096 < l0_1.length) = false := decide_eq_false (by omega)
    clear c6
    replace H := z8 H
    obtain ⟨t196, A80, H⟩ := H
    replace H : (cotterref08_May.j0 k (!t196) a0_0 l0_1 l0_2) = some r := H
    have A8 := z4 A80
    clear A80
    have H' := z4 H
    clear H
    have hcz9_0 : w3.cell? ⟨gb195, 0, none⟩ = some (.string a0_0) := (zC BK195.out 0).trans rfl
    have hcz9_1 : w3.cell? ⟨gb195, 1, none⟩ = some (.slice A0_1 l0_1.length c0_1) := (zC BK195.out 1).trans rfl
    have hcz9_2 : w3.cell? ⟨gb195, 2, none⟩ = some (.slice A0_2 l0_2.length c0_2) := (zC BK195.out 2).trans rfl
    have hfz9_0 := zF BK195.out 0
    have hfz9_1 := zF BK195.out 1
    have hfz9_2 := zF BK195.out 2
    go_wp2_with (first | (go_at_call 44; (with_reducible refine (cotterref06_Syms.calls k _ _ l0_2 (a0_0.size : Int) (l0_1.length : Int) t196 _ ?side1 ?side2 A8.out).mono ?_); (case side1 => repeat (first | exact (zS HR0_2.out HB.out) | (with_reducible refine zP ?_ _) | (with_reducible refine zQ ?_ _) | (with_reducible refine zR ?_))); (case side2 => exact HC0_2.out); rintro e w10 ⟨rfl, hb⟩; have n0_ := z4 (blk_below (g := gb195) (o := .cells #[.string a0_0, .slice A0_1 l0_1.length c0_1, .slice A0_2 l0_2.length c0_2] 25 (0, 0)) (by (with_reducible repeat (first | refine zH ?_ _ | refine zI ?_ | refine zG ?_ _)); exact BK195.out) hb); have n1_ := z4 (zK (by repeat (first | exact HB.out | apply zA | apply zB | apply zD | refine zJ ?_ GE195.out)) hb); clear BK195; clear HB; have BK195 := n0_; have HB := n1_; clear n0_ n1_; (try clear hb); (try clear hb2); (try clear hk); (try clear hi)))
    go_meet
    case rel => exact ⟨_, (!t196), (by first | rfl | (simp; done) | (simp [*]; done)), H', ⟨by first | omega | exact Nat.le_refl _⟩, ⟨by (with_reducible repeat (first | refine zH ?_ _ | refine zI ?_ | refine zG ?_ _)); exact BK195.out⟩, ⟨by repeat (first | exact HB.out | apply zA | apply zB | apply zD | refine zJ ?_ GE195.out)⟩⟩
 case rest =>
  clear HC2
  try clear c2
  try clear p2
  try clear c4
  try clear c4b0
  try clear c4b1
  try clear c6
  try clear c6b0
  try clear c6b1
  try clear hcz5_0
  try clear hcz5_1
  try clear hcz5_2
  try clear hcz7_0
  try clear hcz7_1
  try clear hcz7_2
  try clear hcz9_0
  try clear hcz9_1
  try clear hcz9_2
  try clear hfz5_0
  try clear hfz5_1
  try clear hfz5_2
  try clear hfz7_0
  try clear hfz7_1
  try clear hfz7_2
  try clear hfz9_0
  try clear hfz9_1
  try clear hfz9_2
  obtain ⟨kq, x34_1, rfl, HA, HJ1, BK195, HB⟩ := hcut
  cases kq with
  | zero => exact absurd HA.out (by simp [cotterref08_May.j0])
  | succ kj1 =>
   have H := HA.out
   clear HA
   simp only [cotterref08_May.j0] at H
   by_cases c11 : x34_1 = true
   ·subst c11
    have H1 : (some false) = some r := by rw [if_pos rfl] at H; exact H
    clear H
    have H := H1
    clear H1
    obtain rfl := Option.some.inj H
    go_wp2
    go_ret
    exact ⟨by first | rfl | (simp [errW_none, errW_some] <;> rfl) | (simp [*, errW_none, errW_some] <;> rfl), by repeat (first | exact HB.out | apply zA | apply zB | apply zD | refine zJ ?_ GE195.out)⟩
   ·replace c11 := Bool.eq_false_iff.mpr c11
    subst c11
    have H1 : ((cotterref08_Starts.f kj1 a0_0).bind fun bt197 => (if bt197.2 = true then ((cotterref03_All.f kj1 a0_0).bind fun bt201 => (cotterref08_May.l0 kj1 bt197.1 bt201.1 0 0 a0_0 l0_1 l0_2)) else (some false))) = some r := by rw [if_neg (show ¬ (false = true) by decide)] at H; exact H
    clear H
    have H := H1
    clear H1
    replace H := z8 H
    obtain ⟨⟨t197, t198⟩, A120, H⟩ := H
    replace H : (if t198 = true then ((cotterref03_All.f kj1 a0_0).bind fun bt201 => (cotterref08_May.l0 kj1 t197 bt201.1 0 0 a0_0 l0_1 l0_2)) else (some false)) = some r := H
    have A12 := z4 A120
    clear A120
    by_cases c13 : t198 = true
    ·subst c13
     have H1 : ((cotterref03_All.f kj1 a0_0).bind fun bt201 => (cotterref08_May.l0 kj1 t197 bt201.1 0 0 a0_0 l0_1 l0_2)) = some r := by rw [if_pos rfl] at H; exact H
     clear H
     have H := H1
     clear H1
     replace H := z8 H
     obtain ⟨⟨t201, t202⟩, A140, H⟩ := H
     replace H : (cotterref08_May.l0 kj1 t197 t201 0 0 a0_0 l0_1 l0_2) = some r := H
     have A14 := z4 A140
     clear A140
     have H' := z4 H
     clear H
     have hcz15_0 : wc.cell? ⟨gb195, 0, none⟩ = some (.string a0_0) := (zC BK195.out 0).trans rfl
     have hcz15_1 : wc.cell? ⟨gb195, 1, none⟩ = some (.slice A0_1 l0_1.length c0_1) := (zC BK195.out 1).trans rfl
     have hcz15_2 : wc.cell? ⟨gb195, 2, none⟩ = some (.slice A0_2 l0_2.length c0_2) := (zC BK195.out 2).trans rfl
     have hfz15_0 := zF BK195.out 0
     have hfz15_1 := zF BK195.out 1
     have hfz15_2 := zF BK195.out 2
     go_wp2_with (first | ((with_reducible refine gate_callee (f := 19) rfl ?_); refine goesL_ (some 38) rfl rfl Tryd.func19 (by kernel_rfl) rfl #[.string a0_0] rfl (by (try simp only [z9, List.map_cons, List.map_nil]); first | done | rfl | (simp only [z9a, z9b]; rfl)) ?_; (with_reducible refine (cotterref08_Starts.calls kj1 a0_0 t197 true _ A12.out).mono ?_); rintro e w16 ⟨v199, rfl, ho0, hb⟩; refine ⟨_, rfl, ?_⟩; have n0_ := z4 (zU ho0 (zL (by repeat (first | exact HB.out | apply zA | apply zB | apply zD | refine zJ ?_ GE195.out)))); have n1_ := z4 (blk_below (g := gb195) (o := .cells #[.string a0_0, .slice A0_1 l0_1.length c0_1, .slice A0_2 l0_2.length c0_2] 25 (0, 0)) (by (with_reducible repeat (first | refine zH ?_ _ | refine zI ?_ | refine zG ?_ _)); exact BK195.out) hb); have n2_ := z4 (zK (by repeat (first | exact HB.out | apply zA | apply zB | apply zD | refine zJ ?_ GE195.out)) hb); clear BK195; clear HB; have HO200 := n0_; have BK195 := n1_; have HB := n2_; clear n0_ n1_ n2_; (try clear hb); (try clear hb2); (try clear hk); (try clear hi); (try clear ho0); have hcz17_0 : w16.cell? ⟨gb195, 0, none⟩ = some (.string a0_0) := (zC BK195.out 0).trans rfl; have hcz17_1 : w16.cell? ⟨gb195, 1, none⟩ = some (.slice A0_1 l0_1.length c0_1) := (zC BK195.out 1).trans rfl; have hcz17_2 : w16.cell? ⟨gb195, 2, none⟩ = some (.slice A0_2 l0_2.length c0_2) := (zC BK195.out 2).trans rfl; have hfz17_0 := zF BK195.out 0; have hfz17_1 := zF BK195.out 1; have hfz17_2 := zF BK195.out 2) | ((with_reducible refine gate_callee (f := 38) rfl ?_); refine goesL_ (some 46) rfl rfl Tryd.func38 (by kernel_rfl) rfl #[.string a0_0] rfl (by (try simp only [z9, List.map_cons, List.map_nil]); first | done | rfl | (simp only [z9a, z9b]; rfl)) ?_; (with_reducible refine (cotterref03_All.calls kj1 a0_0 t201 t202 _ A14.out).mono ?_); rintro e w18 ⟨v203, rfl, ho0, hb⟩; refine ⟨_, rfl, ?_⟩; have n0_ := z4 (zV (by (with_reducible repeat (first | apply zM | apply zN | apply zO)); exact HO200.out) hb); have n1_ := z4 (zU ho0 (zL (by repeat (first | exact HB.out | apply zA | apply zB | apply zD | refine zJ ?_ GE195.out)))); have n2_ := z4 (blk_below (g := gb195) (o := .cells #[.string a0_0, .slice A0_1 l0_1.length c0_1, .slice A0_2 l0_2.length c0_2] 25 (0, 0)) (by (with_reducible repeat (first | refine zH ?_ _ | refine zI ?_ | refine zG ?_ _)); exact BK195.out) hb); have n3_ := z4 (zK (by repeat (first | exact HB.out | apply zA | apply zB | apply zD | refine zJ ?_ GE195.out)) hb); clear HO200; clear BK195; clear HB; have HO200 := n0_; have HO204 := n1_; have BK195 := n2_; have HB := n3_; clear n0_ n1_ n2_ n3_; (try clear hb); (try clear hb2); (try clear hk); (try clear hi); (try clear ho0)))
     go_loopg [7, 8] kj1 (fun kq v7 v8 w' => ∃ (x7_2 : Int) (x8_2 : Int), v7 = .int .i64 x7_2 ∧ v8 = .int .i64 x8_2 ∧ Aside0 (cotterref08_May.l0 kq t197 t201 x7_2 x8_2 a0_0 l0_1 l0_2 = some r) ∧ Aside0 (kq ≤ kj1) ∧ Aside0 (Kd.R (Kd.int .i64) 3 w' w.heap.size (fun _ => True) v199 t197) ∧ Aside0 (Kd.R k79 79 w' w.heap.size (fun _ => True) v203 t201) ∧ Aside0 (w'.heap[gb195]? = some (.cells #[.string a0_0, (.slice A0_1 l0_1.length c0_1), (.slice A0_2 l0_2.length c0_2)] 25 (0, 0))) ∧ Aside0 (Below w.heap.size w w'))
     case atStart => exact ⟨(0), (0), (by first | rfl | (simp; done) | (simp [*]; done)), (by first | rfl | (simp; done) | (simp [*]; done)), H', ⟨Nat.le_refl _⟩, ⟨by (with_reducible repeat (first | apply zM | apply zN | apply zO)); exact HO200.out⟩, ⟨by (with_reducible repeat (first | apply zM | apply zN | apply zO)); exact HO204.out⟩, ⟨by (with_reducible repeat (first | refine zH ?_ _ | refine zI ?_ | refine zG ?_ _)); exact BK195.out⟩, ⟨by repeat (first | exact HB.out | apply zA | apply zB | apply zD | refine zJ ?_ GE195.out)⟩⟩
     case round =>
      clear H'
      try clear c1
      try clear c2
      try clear p2
      try clear c3
      try clear c4
      try clear c4b0
      try clear c4b1
      try clear c6
      try clear c6b0
      try clear c6b1
      try clear c11
      try clear c13
      try clear hcz15_0
      try clear hcz15_1
      try clear hcz15_2
      try clear hcz17_0
      try clear hcz17_1
      try clear hcz17_2
      try clear hcz5_0
      try clear hcz5_1
      try clear hcz5_2
      try clear hcz7_0
      try clear hcz7_1
      try clear hcz7_2
      try clear hcz9_0
      try clear hcz9_1
      try clear hcz9_2
      try clear hfz15_0
      try clear hfz15_1
      try clear hfz15_2
      try clear hfz17_0
      try clear hfz17_1
      try clear hfz17_2
      try clear hfz5_0
      try clear hfz5_1
      try clear hfz5_2
      try clear hfz7_0
      try clear hfz7_1
      try clear hfz7_2
      try clear hfz9_0
      try clear hfz9_1
      try clear hfz9_2
      try clear p2
      obtain ⟨x7_2, x8_2, rfl, rfl, HA, HK2, HO_3, HO_5, BK195, HB⟩ := hrel
      cases gk with
      | zero => exact absurd HA.out (by simp [cotterref08_May.l0])
      | succ k2 =>
       have H := HA.out
       clear HA
       simp only [cotterref08_May.l0] at H
       by_cases c19 : x8_2 < (t201.length : Int)
       ·rw [if_pos c19] at H
        have c19b0 : decide (x8_2 < (t201.length : Int)) = true := decide_eq_true c19
        clear c19
        by_cases c20 : 0 ≤ x8_2
        ·rw [if_pos c20] at H
         have c20b0 : decide (0 ≤ x8_2) = true := decide_eq_true c20
         clear c20
         replace H := z8 H
         obtain ⟨t206, A210, H⟩ := H
         replace H : ((cotterref03_Jumps.f ((rd_T79 t201 x8_2).f0)).bind fun t208 => (if t208 = true then ((cotterref08_has.f k2 t197 (wrap64 ((wrap64 (x7_2 + t206)) + ((rd_T79 t201 x8_2).f3)))).bind fun t210 => (cotterref08_May.j2 k2 t197 t201 (wrap64 (x7_2 + t206)) x8_2 (!t210) a0_0 l0_1 l0_2)) else (cotterref08_May.j2 k2 t197 t201 (wrap64 (x7_2 + t206)) x8_2 false a0_0 l0_1 l0_2))) = some r := H
         have A21 := z4 A210
         clear A210
         have HC22 := z4 H
         clear H
         obtain ⟨Ao23, co23, eo23⟩ := Kd.R_slice HO_5.out
         subst eo23
         have p205 : 0 ≤ (x8_2 : Int) := of_decide_eq_true (by first | (with_reducible assumption) | assumption)
         have q205 : x8_2 < (t201.length : Int) := of_decide_eq_true (by first | (with_reducible assumption) | assumption)
         obtain ⟨ad205, e205, hx205_0, hx205_1, hx205_2, hx205_3⟩ := at_T79 (zT HO_5.out).2.2 x8_2 p205 q205
         cases e205
         replace p205 := eq_true p205
         replace q205 := eq_true q205
         go_upto_region 12 with (first | ((with_reducible refine gate_callee (f := 39) rfl ?_); refine goesL_ (some 61) rfl rfl Tryd.func39 (by kernel_rfl) rfl #[.int .i64 ((rd_T79 t201 x8_2).f0)] rfl (by (try simp only [z9, List.map_cons, List.map_nil]); first | done | rfl | (simp only [z9a, z9b]; rfl)) ?_; (with_reducible refine (cotterref03_Size.calls k2 ((rd_T79 t201 x8_2).f0) t206 _ A21.out).mono ?_); rintro e w' ⟨rfl, ⟨nd, rfl⟩⟩; refine ⟨_, rfl, ?_⟩))
         (try simp only [Act.put, z1, z2, z3])
         go_cut [80] (fun v80 wc => ∃ (kq : Nat) (x80_21 : Bool), v80 = .bool x80_21 ∧ Aside0 (cotterref08_May.j2 kq t197 t201 (wrap64 (x7_2 + t206)) x8_2 x80_21 a0_0 l0_1 l0_2 = some r) ∧ Aside0 (kq ≤ k2) ∧ Aside0 (Kd.R (Kd.int .i64) 3 wc w.heap.size (fun _ => True) v199 t197) ∧ Aside0 (Kd.R k79 79 wc w.heap.size (fun _ => True) (.slice (some ad205) t201.length co23) t201) ∧ Aside0 (wc.heap[gb195]? = some (.cells #[.string a0_0, (.slice A0_1 l0_1.length c0_1), (.slice A0_2 l0_2.length c0_2)] 25 (0, 0))) ∧ Aside0 (Below w.heap.size w wc))
         case first =>
          have H := HC22.out
          clear HC22
          replace H := z8 H
          obtain ⟨t208, A240, H⟩ := H
          replace H : (if t208 = true then ((cotterref08_has.f k2 t197 (wrap64 ((wrap64 (x7_2 + t206)) + ((rd_T79 t201 x8_2).f3)))).bind fun t210 => (cotterref08_May.j2 k2 t197 t201 (wrap64 (x7_2 + t206)) x8_2 (!t210) a0_0 l0_1 l0_2)) else (cotterref08_May.j2 k2 t197 t201 (wrap64 (x7_2 + t206)) x8_2 false a0_0 l0_1 l0_2)) = some r := H
          have A24 := z4 A240
          clear A240
          by_cases c25 : t208 = true
          ·subst c25
           have H1 : ((cotterref08_has.f k2 t197 (wrap64 ((wrap64 (x7_2 + t206)) + ((rd_T79 t201 x8_2).f3)))).bind fun t210 => (cotterref08_May.j2 k2 t197 t201 (wrap64 (x7_2 + t206)) x8_2 (!t210) a0_0 l0_1 l0_2)) = some r := by rw [if_pos rfl] at H; exact H
           clear H
           have H := H1
           clear H1
           replace H := z8 H
           obtain ⟨t210, A260, H⟩ := H
           replace H : (cotterref08_May.j2 k2 t197 t201 (wrap64 (x7_2 + t206)) x8_2 (!t210) a0_0 l0_1 l0_2) = some r := H
           have A26 := z4 A260
           clear A260
           have H' := z4 H
           clear H
           have p207 : 0 ≤ (x8_2 : Int) := of_decide_eq_true (by first | (with_reducible assumption) | assumption)
           have q207 : x8_2 < (t201.length : Int) := of_decide_eq_true (by first | (with_reducible assumption) | assumption)
           obtain ⟨ad207, e207, hx207_0, hx207_1, hx207_2, hx207_3⟩ := at_T79 (zT HO_5.out).2.2 x8_2 p207 q207
           obtain rfl : ad205 = ad207 := (by injection e207)
           replace p207 := eq_true p207
           replace q207 := eq_true q207
           go_wp2_with (first | ((with_reducible refine gate_callee (f := 45) rfl ?_); refine goesL_ (some 68) rfl rfl Tryd.func45 (by kernel_rfl) rfl #[.int .i64 ((rd_T79 t201 x8_2).f0)] rfl (by (try simp only [z9, List.map_cons, List.map_nil]); first | done | rfl | (simp only [z9a, z9b]; rfl)) ?_; (with_reducible refine (cotterref03_Jumps.calls ((rd_T79 t201 x8_2).f0) true _ A24.out).mono ?_); rintro e w' ⟨rfl, ⟨nd, rfl⟩⟩; refine ⟨_, rfl, ?_⟩; have p209 : 0 ≤ (x8_2 : Int) := of_decide_eq_true (by first | (with_reducible assumption) | assumption); have q209 : x8_2 < (t201.length : Int) := of_decide_eq_true (by first | (with_reducible assumption) | assumption); obtain ⟨ad209, e209, hx209_0, hx209_1, hx209_2, hx209_3⟩ := at_T79 (zT HO_5.out).2.2 x8_2 p209 q209; obtain rfl : ad205 = ad209 := (by injection e209); replace p209 := eq_true p209; replace q209 := eq_true q209; obtain ⟨Ao27, co27, eo27⟩ := Kd.R_slice HO_3.out; subst eo27) | (go_at_call 46; (with_reducible refine (cotterref08_has.calls k2 _ _ t197 (wrap64 ((wrap64 (x7_2 + t206)) + ((rd_T79 t201 x8_2).f3))) t210 _ ?side1 ?side2 A26.out).mono ?_); (case side1 => repeat (first | exact (zT HO_3.out).2.2 | (with_reducible refine zP ?_ _) | (with_reducible refine zQ ?_ _) | (with_reducible refine zR ?_))); (case side2 => exact (zT HO_3.out).2.1); rintro e w' ⟨rfl, ⟨nd, rfl⟩⟩))
           go_meet
           case rel => exact ⟨_, (!t210), (by first | rfl | (simp; done) | (simp [*]; done)), H', ⟨by have := HJ1.out; have := HK2.out; first | omega | exact Nat.le_refl _⟩, ⟨by (with_reducible repeat (first | apply zM | apply zN | apply zO)); exact HO_3.out⟩, ⟨by (with_reducible repeat (first | apply zM | apply zN | apply zO)); exact HO_5.out⟩, ⟨by (with_reducible repeat (first | refine zH ?_ _ | refine zI ?_ | refine zG ?_ _)); exact BK195.out⟩, ⟨by repeat (first | exact HB.out | apply zA | apply zB | apply zD | refine zJ ?_ GE195.out)⟩⟩
          ·replace c25 := Bool.eq_false_iff.mpr c25
           subst c25
           have H1 : (cotterref08_May.j2 k2 t197 t201 (wrap64 (x7_2 + t206)) x8_2 false a0_0 l0_1 l0_2) = some r := by rw [if_neg (show ¬ (false = true) by decide)] at H; exact H
           clear H
           have H := H1
           clear H1
           have H' := z4 H
           clear H
           have p207 : 0 ≤ (x8_2 : Int) := of_decide_eq_true (by first | (with_reducible assumption) | assumption)
           have q207 : x8_2 < (t201.length : Int) := of_decide_eq_true (by first | (with_reducible assumption) | assumption)
           obtain ⟨ad207, e207, hx207_0, hx207_1, hx207_2, hx207_3⟩ := at_T79 (zT HO_5.out).2.2 x8_2 p207 q207
           obtain rfl : ad205 = ad207 := (by injection e207)
           replace p207 := eq_true p207
           replace q207 := eq_true q207
           go_wp2_with (first | ((with_reducible refine gate_callee (f := 45) rfl ?_); refine goesL_ (some 68) rfl rfl Tryd.func45 (by kernel_rfl) rfl #[.int .i64 ((rd_T79 t201 x8_2).f0)] rfl (by (try simp only [z9, List.map_cons, List.map_nil]); first | done | rfl | (simp only [z9a, z9b]; rfl)) ?_; (with_reducible refine (cotterref03_Jumps.calls ((rd_T79 t201 x8_2).f0) false _ A24.out).mono ?_); rintro e w' ⟨rfl, ⟨nd, rfl⟩⟩; refine ⟨_, rfl, ?_⟩))
           go_meet
           case rel => exact ⟨_, (false), (by first | rfl | (simp; done) | (simp [*]; done)), H', ⟨by have := HJ1.out; have := HK2.out; first | omega | exact Nat.le_refl _⟩, ⟨by (with_reducible repeat (first | apply zM | apply zN | apply zO)); exact HO_3.out⟩, ⟨by (with_reducible repeat (first | apply zM | apply zN | apply zO)); exact HO_5.out⟩, ⟨by (with_reducible repeat (first | refine zH ?_ _ | refine zI ?_ | refine zG ?_ _)); exact BK195.out⟩, ⟨by repeat (first | exact HB.out | apply zA | apply zB | apply zD | refine zJ ?_ GE195.out)⟩⟩
         case rest =>
          clear HC22
          try clear c1
          try clear c2
          try clear p2
          try clear q2
          try clear hx2
          try clear c3
          try clear c4
          try clear c4b0
          try clear c4b1
          try clear c6
          try clear c6b0
          try clear c6b1
          try clear p6
          try clear c11
          try clear c13
          try clear c19
          try clear c19b0
          try clear c20
          try clear c20b0
          try clear p20
          try clear q20
          try clear hx20
          try clear c25
          try clear hcz15_0
          try clear hcz15_1
          try clear hcz15_2
          try clear hcz17_0
          try clear hcz17_1
          try clear hcz17_2
          try clear hcz5_0
          try clear hcz5_1
          try clear hcz5_2
          try clear hcz7_0
          try clear hcz7_1
          try clear hcz7_2
          try clear hcz9_0
          try clear hcz9_1
          try clear hcz9_2
          try clear hfz15_0
          try clear hfz15_1
          try clear hfz15_2
          try clear hfz17_0
          try clear hfz17_1
          try clear hfz17_2
          try clear hfz5_0
          try clear hfz5_1
          try clear hfz5_2
          try clear hfz7_0
          try clear hfz7_1
          try clear hfz7_2
          try clear hfz9_0
          try clear hfz9_1
          try clear hfz9_2
          try clear hx205_0
          try clear hx205_1
          try clear hx205_2
          try clear hx205_3
          try clear hx207_0
          try clear hx207_1
          try clear hx207_2
          try clear hx207_3
          try clear hx209_0
          try clear hx209_1
          try clear hx209_2
          try clear hx209_3
          try clear p2
          try clear p205
          try clear p207
          try clear p209
          try clear q205
          try clear q207
          try clear q209
          obtain ⟨kq, x80_21, rfl, HA, HJ21, HO_3, HO_5, BK195, HB⟩ := hcut
          cases kq with
          | zero => exact absurd HA.out (by simp [cotterref08_May.j2])
          | succ kj21 =>
           have H := HA.out
           clear HA
           simp only [cotterref08_May.j2] at H
           by_cases c28 : x80_21 = true
           ·subst c28
            have H1 : (some false) = some r := by rw [if_pos rfl] at H; exact H
            clear H
            have H := H1
            clear H1
            obtain rfl := Option.some.inj H
            go_wp2
            go_ret
            exact ⟨by first | rfl | (simp [errW_none, errW_some] <;> rfl) | (simp [*, errW_none, errW_some] <;> rfl), by repeat (first | exact HB.out | apply zA | apply zB | apply zD | refine zJ ?_ GE195.out)⟩
           ·replace c28 := Bool.eq_false_iff.mpr c28
            subst c28
            have H1 : (if 0 ≤ x8_2 then (if x8_2 < (t201.length : Int) then (if ((rd_T79 t201 x8_2).f0) = 19 then (if (wrap64 (((rd_T79 t201 x8_2).f3) - 1048576)) < 0 then (some false) else (if (Int.tmod (wrap64 (((rd_T79 t201 x8_2).f3) - 1048576)) 8) = 0 then (if (wrap64 (((rd_T79 t201 x8_2).f3) - 1048576)) ≥ (wrap64 (8 * (l0_1.length : Int))) then (some false) else (cotterref08_May.l0 kj21 t197 t201 (wrap64 (x7_2 + t206)) (wrap64 (x8_2 + 1)) a0_0 l0_1 l0_2)) else (some false))) else (cotterref08_May.l0 kj21 t197 t201 (wrap64 (x7_2 + t206)) (wrap64 (x8_2 + 1)) a0_0 l0_1 l0_2)) else (none)) else (none)) = some r := by rw [if_neg (show ¬ (false = true) by decide)] at H; exact H
            clear H
            have H := H1
            clear H1
            by_cases c29 : 0 ≤ x8_2
            ·rw [if_pos c29] at H
             have c29b0 : decide (0 ≤ x8_2) = true := decide_eq_true c29
             clear c29
             by_cases c30 : x8_2 < (t201.length : Int)
             ·rw [if_pos c30] at H
              have c30b0 : decide (x8_2 < (t201.length : Int)) = true := decide_eq_true c30
              clear c30
              by_cases c31 : ((rd_T79 t201 x8_2).f0) = 19
              ·rw [if_pos c31] at H
               have c31b0 : (((rd_T79 t201 x8_2).f0) == 19) = true := z5 c31
               have c31b1 : (((rd_T79 t201 x8_2).f0) != 19) = false := z6 c31
               clear c31
               by_cases c32 : (wrap64 (((rd_T79 t201 x8_2).f3) - 1048576)) < 0
               ·rw [if_pos c32] at H
                have c32b0 : decide ((wrap64 (((rd_T79 t201 x8_2).f3) - 1048576)) < 0) = true := decide_eq_true c32
                clear c32
                obtain rfl := Option.some.inj H
                have p211 : 0 ≤ (x8_2 : Int) := of_decide_eq_true (by first | (with_reducible assumption) | assumption)
                have q211 : x8_2 < (t201.length : Int) := of_decide_eq_true (by first | (with_reducible assumption) | assumption)
                obtain ⟨ad211, e211, hx211_0, hx211_1, hx211_2, hx211_3⟩ := at_T79 (zT HO_5.out).2.2 x8_2 p211 q211
                obtain rfl : ad205 = ad211 := (by injection e211)
                replace p211 := eq_true p211
                replace q211 := eq_true q211
                have p212 : 0 ≤ (x8_2 : Int) := of_decide_eq_true (by first | (with_reducible assumption) | assumption)
                have q212 : x8_2 < (t201.length : Int) := of_decide_eq_true (by first | (with_reducible assumption) | assumption)
                obtain ⟨ad212, e212, hx212_0, hx212_1, hx212_2, hx212_3⟩ := at_T79 (zT HO_5.out).2.2 x8_2 p212 q212
                obtain rfl : ad205 = ad212 := (by injection e212)
                replace p212 := eq_true p212
                replace q212 := eq_true q212
                go_wp2
                go_ret
                exact ⟨by first | rfl | (simp [errW_none, errW_some] <;> rfl) | (simp [*, errW_none, errW_some] <;> rfl), by repeat (first | exact HB.out | apply zA | apply zB | apply zD | refine zJ ?_ GE195.out)⟩
               ·rw [if_neg c32] at H
                have c32b0 : decide ((wrap64 (((rd_T79 t201 x8_2).f3) - 1048576)) < 0) = false := decide_eq_false c32
                clear c32
                by_cases c33 : (Int.tmod (wrap64 (((rd_T79 t201 x8_2).f3) - 1048576)) 8) = 0
                ·rw [if_pos c33] at H
                 have c33b0 : ((Int.tmod (wrap64 (((rd_T79 t201 x8_2).f3) - 1048576)) 8) == 0) = true := z5 c33
                 have c33b1 : ((Int.tmod (wrap64 (((rd_T79 t201 x8_2).f3) - 1048576)) 8) != 0) = false := z6 c33
                 clear c33
                 by_cases c34 : (wrap64 (((rd_T79 t201 x8_2).f3) - 1048576)) ≥ (wrap64 (8 * (l0_1.length : Int)))
                 ·rw [if_pos c34] at H
                  have c34b0 : decide ((wrap64 (8 * (l0_1.length : Int))) ≤ (wrap64 (((rd_T79 t201 x8_2).f3) - 1048576))) = true := decide_eq_true c34
                  clear c34
                  obtain rfl := Option.some.inj H
                  have p211 : 0 ≤ (x8_2 : Int) := of_decide_eq_true (by first | (with_reducible assumption) | assumption)
                  have q211 : x8_2 < (t201.length : Int) := of_decide_eq_true (by first | (with_reducible assumption) | assumption)
                  obtain ⟨ad211, e211, hx211_0, hx211_1, hx211_2, hx211_3⟩ := at_T79 (zT HO_5.out).2.2 x8_2 p211 q211
                  obtain rfl : ad205 = ad211 := (by injection e211)
                  replace p211 := eq_true p211
                  replace q211 := eq_true q211
                  have p212 : 0 ≤ (x8_2 : Int) := of_decide_eq_true (by first | (with_reducible assumption) | assumption)
                  have q212 : x8_2 < (t201.length : Int) := of_decide_eq_true (by first | (with_reducible assumption) | assumption)
                  obtain ⟨ad212, e212, hx212_0, hx212_1, hx212_2, hx212_3⟩ := at_T79 (zT HO_5.out).2.2 x8_2 p212 q212
                  obtain rfl : ad205 = ad212 := (by injection e212)
                  replace p212 := eq_true p212
                  replace q212 := eq_true q212
                  have hcz35_0 : wc.cell? ⟨gb195, 0, none⟩ = some (.string a0_0) := (zC BK195.out 0).trans rfl
                  have hcz35_1 : wc.cell? ⟨gb195, 1, none⟩ = some (.slice A0_1 l0_1.length c0_1) := (zC BK195.out 1).trans rfl
                  have hcz35_2 : wc.cell? ⟨gb195, 2, none⟩ = some (.slice A0_2 l0_2.length c0_2) := (zC BK195.out 2).trans rfl
                  have hfz35_0 := zF BK195.out 0
                  have hfz35_1 := zF BK195.out 1
                  have hfz35_2 := zF BK195.out 2
                  go_wp2
                  go_ret
                  exact ⟨by first | rfl | (simp [errW_none, errW_some] <;> rfl) | (simp [*, errW_none, errW_some] <;> rfl), by repeat (first | exact HB.out | apply zA | apply zB | apply zD | refine zJ ?_ GE195.out)⟩
                 ·rw [if_neg c34] at H
                  have c34b0 : decide ((wrap64 (8 * (l0_1.length : Int))) ≤ (wrap64 (((rd_T79 t201 x8_2).f3) - 1048576))) = false := decide_eq_false c34
                  clear c34
                  have H' := z4 H
                  clear H
                  have p211 : 0 ≤ (x8_2 : Int) := of_decide_eq_true (by first | (with_reducible assumption) | assumption)
                  have q211 : x8_2 < (t201.length : Int) := of_decide_eq_true (by first | (with_reducible assumption) | assumption)
                  obtain ⟨ad211, e211, hx211_0, hx211_1, hx211_2, hx211_3⟩ := at_T79 (zT HO_5.out).2.2 x8_2 p211 q211
                  obtain rfl : ad205 = ad211 := (by injection e211)
                  replace p211 := eq_true p211
                  replace q211 := eq_true q211
                  have p212 : 0 ≤ (x8_2 : Int) := of_decide_eq_true (by first | (with_reducible assumption) | assumption)
                  have q212 : x8_2 < (t201.length : Int) := of_decide_eq_true (by first | (with_reducible assumption) | assumption)
                  obtain ⟨ad212, e212, hx212_0, hx212_1, hx212_2, hx212_3⟩ := at_T79 (zT HO_5.out).2.2 x8_2 p212 q212
                  obtain rfl : ad205 = ad212 := (by injection e212)
                  replace p212 := eq_true p212
                  replace q212 := eq_true q212
                  have hcz36_0 : wc.cell? ⟨gb195, 0, none⟩ = some (.string a0_0) := (zC BK195.out 0).trans rfl
                  have hcz36_1 : wc.cell? ⟨gb195, 1, none⟩ = some (.slice A0_1 l0_1.length c0_1) := (zC BK195.out 1).trans rfl
                  have hcz36_2 : wc.cell? ⟨gb195, 2, none⟩ = some (.slice A0_2 l0_2.length c0_2) := (zC BK195.out 2).trans rfl
                  have hfz36_0 := zF BK195.out 0
                  have hfz36_1 := zF BK195.out 1
                  have hfz36_2 := zF BK195.out 2
                  go_wp2
                  go_roundg kj21
                  case measure => have := HJ1.out; have := HK2.out; have := HJ21.out; omega
                  case rel => exact ⟨((wrap64 (x7_2 + t206))), (wrap64 (x8_2 + 1)), (by first | rfl | (simp; done) | (simp [*]; done)), (by first | rfl | (simp; done) | (simp [*]; done)), H', ⟨by have := HJ1.out; have := HK2.out; have := HJ21.out; omega⟩, ⟨by (with_reducible repeat (first | apply zM | apply zN | apply zO)); exact HO_3.out⟩, ⟨by (with_reducible repeat (first | apply zM | apply zN | apply zO)); exact HO_5.out⟩, ⟨by (with_reducible repeat (first | refine zH ?_ _ | refine zI ?_ | refine zG ?_ _)); exact BK195.out⟩, ⟨by repeat (first | exact HB.out | apply zA | apply zB | apply zD | refine zJ ?_ GE195.out)⟩⟩
                ·rw [if_neg c33] at H
                 have c33b0 : ((Int.tmod (wrap64 (((rd_T79 t201 x8_2).f3) - 1048576)) 8) == 0) = false := z7 c33
                 have c33b1 : ((Int.tmod (wrap64 (((rd_T79 t201 x8_2).f3) - 1048576)) 8) != 0) = true := bne_iff_ne.mpr c33
                 obtain rfl := Option.some.inj H
                 have p211 : 0 ≤ (x8_2 : Int) := of_decide_eq_true (by first | (with_reducible assumption) | assumption)
                 have q211 : x8_2 < (t201.length : Int) := of_decide_eq_true (by first | (with_reducible assumption) | assumption)
                 obtain ⟨ad211, e211, hx211_0, hx211_1, hx211_2, hx211_3⟩ := at_T79 (zT HO_5.out).2.2 x8_2 p211 q211
                 obtain rfl : ad205 = ad211 := (by injection e211)
                 replace p211 := eq_true p211
                 replace q211 := eq_true q211
                 have p212 : 0 ≤ (x8_2 : Int) := of_decide_eq_true (by first | (with_reducible assumption) | assumption)
                 have q212 : x8_2 < (t201.length : Int) := of_decide_eq_true (by first | (with_reducible assumption) | assumption)
                 obtain ⟨ad212, e212, hx212_0, hx212_1, hx212_2, hx212_3⟩ := at_T79 (zT HO_5.out).2.2 x8_2 p212 q212
                 obtain rfl : ad205 = ad212 := (by injection e212)
                 replace p212 := eq_true p212
                 replace q212 := eq_true q212
                 go_wp2
                 go_ret
                 exact ⟨by first | rfl | (simp [errW_none, errW_some] <;> rfl) | (simp [*, errW_none, errW_some] <;> rfl), by repeat (first | exact HB.out | apply zA | apply zB | apply zD | refine zJ ?_ GE195.out)⟩
              ·rw [if_neg c31] at H
               have c31b0 : (((rd_T79 t201 x8_2).f0) == 19) = false := z7 c31
               have c31b1 : (((rd_T79 t201 x8_2).f0) != 19) = true := bne_iff_ne.mpr c31
               have H' := z4 H
               clear H
               have p211 : 0 ≤ (x8_2 : Int) := of_decide_eq_true (by first | (with_reducible assumption) | assumption)
               have q211 : x8_2 < (t201.length : Int) := of_decide_eq_true (by first | (with_reducible assumption) | assumption)
               obtain ⟨ad211, e211, hx211_0, hx211_1, hx211_2, hx211_3⟩ := at_T79 (zT HO_5.out).2.2 x8_2 p211 q211
               obtain rfl : ad205 = ad211 := (by injection e211)
               replace p211 := eq_true p211
               replace q211 := eq_true q211
               have p212 : 0 ≤ (x8_2 : Int) := of_decide_eq_true (by first | (with_reducible assumption) | assumption)
               have q212 : x8_2 < (t201.length : Int) := of_decide_eq_true (by first | (with_reducible assumption) | assumption)
               obtain ⟨ad212, e212, hx212_0, hx212_1, hx212_2, hx212_3⟩ := at_T79 (zT HO_5.out).2.2 x8_2 p212 q212
               obtain rfl : ad205 = ad212 := (by injection e212)
               replace p212 := eq_true p212
               replace q212 := eq_true q212
               go_wp2
               go_roundg kj21
               case measure => have := HJ1.out; have := HK2.out; have := HJ21.out; omega
               case rel => exact ⟨((wrap64 (x7_2 + t206))), (wrap64 (x8_2 + 1)), (by first | rfl | (simp; done) | (simp [*]; done)), (by first | rfl | (simp; done) | (simp [*]; done)), H', ⟨by have := HJ1.out; have := HK2.out; have := HJ21.out; omega⟩, ⟨by (with_reducible repeat (first | apply zM | apply zN | apply zO)); exact HO_3.out⟩, ⟨by (with_reducible repeat (first | apply zM | apply zN | apply zO)); exact HO_5.out⟩, ⟨by (with_reducible repeat (first | refine zH ?_ _ | refine zI ?_ | refine zG ?_ _)); exact BK195.out⟩, ⟨by repeat (first | exact HB.out | apply zA | apply zB | apply zD | refine zJ ?_ GE195.out)⟩⟩
             ·rw [if_neg c30] at H
              exact absurd H (by simp)
            ·rw [if_neg c29] at H
             exact absurd H (by simp)
        ·rw [if_neg c20] at H
         exact absurd H (by simp)
       ·rw [if_neg c19] at H
        have c19b0 : decide (x8_2 < (t201.length : Int)) = false := decide_eq_false c19
        clear c19
        have H' := z4 H
        clear H
        obtain ⟨Ao37, co37, eo37⟩ := Kd.R_slice HO_5.out
        subst eo37
        go_wp2
        go_loopg [10, 11] k2 (fun kq v10 v11 w' => ∃ (x10_3 : Int) (x11_3 : Int), v10 = .int .i64 x10_3 ∧ v11 = .int .i64 x11_3 ∧ Aside0 (cotterref08_May.l1 kq t197 x10_3 x11_3 a0_0 l0_1 l0_2 = some r) ∧ Aside0 (kq ≤ k2) ∧ Aside0 (Kd.R (Kd.int .i64) 3 w' w.heap.size (fun _ => True) v199 t197) ∧ Aside0 (w'.heap[gb195]? = some (.cells #[.string a0_0, (.slice A0_1 l0_1.length c0_1), (.slice A0_2 l0_2.length c0_2)] 25 (0, 0))) ∧ Aside0 (Below w.heap.size w w'))
        case atStart => exact ⟨(0), (0), (by first | rfl | (simp; done) | (simp [*]; done)), (by first | rfl | (simp; done) | (simp [*]; done)), H', ⟨Nat.le_refl _⟩, ⟨by (with_reducible repeat (first | apply zM | apply zN | apply zO)); exact HO_3.out⟩, ⟨by (with_reducible repeat (first | refine zH ?_ _ | refine zI ?_ | refine zG ?_ _)); exact BK195.out⟩, ⟨by repeat (first | exact HB.out | apply zA | apply zB | apply zD | refine zJ ?_ GE195.out)⟩⟩
        case round =>
         clear H'
         try clear c1
         try clear c2
         try clear p2
         try clear q2
         try clear hx2
         try clear c3
         try clear c4
         try clear c4b0
         try clear c4b1
         try clear c6
         try clear c6b0
         try clear c6b1
         try clear p6
         try clear c11
         try clear c13
         try clear c19
         try clear c19b0
         try clear c20
         try clear c20b0
         try clear p20
         try clear q20
         try clear hx20
         try clear p21
         try clear q21
         try clear hx21
         try clear c25
         try clear c28
         try clear c29
         try clear c29b0
         try clear c30
         try clear c30b0
         try clear c31
         try clear c31b0
         try clear c31b1
         try clear c32
         try clear c32b0
         try clear c33
         try clear c33b0
         try clear c33b1
         try clear c34
         try clear c34b0
         try clear hcz15_0
         try clear hcz15_1
         try clear hcz15_2
         try clear hcz17_0
         try clear hcz17_1
         try clear hcz17_2
         try clear hcz35_0
         try clear hcz35_1
         try clear hcz35_2
         try clear hcz36_0
         try clear hcz36_1
         try clear hcz36_2
         try clear hcz5_0
         try clear hcz5_1
         try clear hcz5_2
         try clear hcz7_0
         try clear hcz7_1
         try clear hcz7_2
         try clear hcz9_0
         try clear hcz9_1
         try clear hcz9_2
         try clear hfz15_0
         try clear hfz15_1
         try clear hfz15_2
         try clear hfz17_0
         try clear hfz17_1
         try clear hfz17_2
         try clear hfz35_0
         try clear hfz35_1
         try clear hfz35_2
         try clear hfz36_0
         try clear hfz36_1
         try clear hfz36_2
         try clear hfz5_0
         try clear hfz5_1
         try clear hfz5_2
         try clear hfz7_0
         try clear hfz7_1
         try clear hfz7_2
         try clear hfz9_0
         try clear hfz9_1
         try clear hfz9_2
         try clear hx205_0
         try clear hx205_1
         try clear hx205_2
         try clear hx205_3
         try clear hx207_0
         try clear hx207_1
         try clear hx207_2
         try clear hx207_3
         try clear hx209_0
         try clear hx209_1
         try clear hx209_2
         try clear hx209_3
         try clear hx211_0
         try clear hx211_1
         try clear hx211_2
         try clear hx211_3
         try clear hx212_0
         try clear hx212_1
         try clear hx212_2
         try clear hx212_3
         try clear p2
         try clear p20
         try clear p205
         try clear p207
         try clear p209
         try clear p211
         try clear p212
         try clear p6
         try clear q2
         try clear q20
         try clear q205
         try clear q207
         try clear q209
         try clear q211
         try clear q212
         obtain ⟨x10_3, x11_3, rfl, rfl, HA, HK3, HO_3, BK195, HB⟩ := hrel
         cases gk with
         | zero => exact absurd HA.out (by simp [cotterref08_May.l1])
         | succ k3 =>
          have H := HA.out
          clear HA
          simp only [cotterref08_May.l1] at H
          by_cases c38 : x11_3 < (l0_2.length : Int)
          ·rw [if_pos c38] at H
           have c38b0 : decide (x11_3 < (l0_2.length : Int)) = true := decide_eq_true c38
           clear c38
           by_cases c39 : 0 ≤ x11_3
           ·rw [if_pos c39] at H
            have c39b0 : decide (0 ≤ x11_3) = true := decide_eq_true c39
            clear c39
            have HC40 := z4 H
            clear H
            have hcz41_0 : wr.cell? ⟨gb195, 0, none⟩ = some (.string a0_0) := (zC BK195.out 0).trans rfl
            have hcz41_1 : wr.cell? ⟨gb195, 1, none⟩ = some (.slice A0_1 l0_1.length c0_1) := (zC BK195.out 1).trans rfl
            have hcz41_2 : wr.cell? ⟨gb195, 2, none⟩ = some (.slice A0_2 l0_2.length c0_2) := (zC BK195.out 2).trans rfl
            have hfz41_0 := zF BK195.out 0
            have hfz41_1 := zF BK195.out 1
            have hfz41_2 := zF BK195.out 2
            have p213 : 0 ≤ (x11_3 : Int) := of_decide_eq_true (by first | (with_reducible assumption) | assumption)
            have q213 : x11_3 < (l0_2.length : Int) := of_decide_eq_true (by first | (with_reducible assumption) | assumption)
            obtain ⟨ad213, e213, hx213_0, hx213_1, hx213_2⟩ := at_T68 HR0_2.out x11_3 p213 q213
            cases e213
            replace hx213_0 := (HB.out.cell (World.block_lt_of_cell? w _ hx213_0)).trans hx213_0
            replace hx213_1 := (HB.out.cell (World.block_lt_of_cell? w _ hx213_1)).trans hx213_1
            replace hx213_2 := (HB.out.cell (World.block_lt_of_cell? w _ hx213_2)).trans hx213_2
            replace p213 := eq_true p213
            replace q213 := eq_true q213
            go_upto_region 22 with (first | ((with_reducible refine gate_dst (N := 12) rfl ?_); (try (refine gate_guard (by rfl) ?_; dsimp only)); refine box_event ?hg (N := 12) ?hd (cs := #[.string (⟨#[]⟩ : ByteArray), .int .i64 0, .int .i64 0]) (t := 68) ?hr ?_; (case hd => rfl); (case hg => rfl); (case hr => first | (go_simp; done) | (go_simp; rfl)); intro gb214 hg w42 hbox hb; have n0_ := z4 (zV (by (with_reducible repeat (first | apply zM | apply zN | apply zO)); exact HO_3.out) hb); have n1_ := z4 (blk_below (g := gb195) (o := .cells #[.string a0_0, .slice A0_1 l0_1.length c0_1, .slice (some ad213) l0_2.length c0_2] 25 (0, 0)) (by (with_reducible repeat (first | refine zH ?_ _ | refine zI ?_ | refine zG ?_ _)); exact BK195.out) hb); have n2_ := z4 (zK (by repeat (first | exact HB.out | apply zA | apply zB | apply zD | refine zJ ?_ GE195.out)) hb); have n3_ := z4 (hbox); have n4_ := z4 ((by rw [hg]; exact (zL (by repeat (first | exact HB.out | apply zA | apply zB | apply zD | refine zJ ?_ GE195.out))) : w.heap.size ≤ gb214)); have n5_ := z4 ((by rw [hg]; exact (zL (by repeat (first | exact HB.out | apply zA | apply zB | apply zD | refine zJ ?_ GE195.out))) : w.heap.size ≤ gb214)); have n6_ := z4 ((by rw [hg]; exact Nat.ne_of_lt (blk_lt (g := gb195) (o := .cells #[.string a0_0, .slice A0_1 l0_1.length c0_1, .slice (some ad213) l0_2.length c0_2] 25 (0, 0)) (by (with_reducible repeat (first | refine zH ?_ _ | refine zI ?_ | refine zG ?_ _)); exact BK195.out)) : gb195 ≠ gb214)); have n7_ := z4 ((by rw [hg]; exact Nat.ne_of_gt (blk_lt (g := gb195) (o := .cells #[.string a0_0, .slice A0_1 l0_1.length c0_1, .slice (some ad213) l0_2.length c0_2] 25 (0, 0)) (by (with_reducible repeat (first | refine zH ?_ _ | refine zI ?_ | refine zG ?_ _)); exact BK195.out)) : gb214 ≠ gb195)); clear HO_3; clear BK195; clear HB; have HO_3 := n0_; have BK195 := n1_; have HB := n2_; have BK214 := n3_; have GW214 := n4_; have GE214 := n5_; have NB195_214 := n6_; have NB214_195 := n7_; clear n0_ n1_ n2_ n3_ n4_ n5_ n6_ n7_; clear hb hbox hg; have hnb43 := NB214_195.out; have hnc43 := NB195_214.out; have hcz44_0 : w42.cell? ⟨gb214, 0, none⟩ = some (.string (⟨#[]⟩ : ByteArray)) := (zC BK214.out 0).trans rfl; have hcz44_1 : w42.cell? ⟨gb214, 1, none⟩ = some (.int .i64 0) := (zC BK214.out 1).trans rfl; have hcz44_2 : w42.cell? ⟨gb214, 2, none⟩ = some (.int .i64 0) := (zC BK214.out 2).trans rfl; have hfz44_0 := zF BK214.out 0; have hfz44_1 := zF BK214.out 1; have hfz44_2 := zF BK214.out 2))
            (try simp only [Act.put, z1, z2, z3])
            go_cut [131] (fun v131 wc => ∃ (kq : Nat) (x131_39 : Bool), v131 = .bool x131_39 ∧ Aside0 (cotterref08_May.j4 kq t197 x10_3 x11_3 x131_39 a0_0 l0_1 l0_2 ((rd_T68 l0_2 x11_3).f0) ((rd_T68 l0_2 x11_3).f1) ((rd_T68 l0_2 x11_3).f2) = some r) ∧ Aside0 (kq ≤ k3) ∧ Aside0 (Kd.R (Kd.int .i64) 3 wc w.heap.size (fun _ => True) v199 t197) ∧ Aside0 (wc.heap[gb195]? = some (.cells #[.string a0_0, (.slice A0_1 l0_1.length c0_1), (.slice (some ad213) l0_2.length c0_2)] 25 (0, 0))) ∧ Aside0 (wc.heap[gb214]? = some (.cells #[.string ((rd_T68 l0_2 x11_3).f0), .int .i64 ((rd_T68 l0_2 x11_3).f1), .int .i64 ((rd_T68 l0_2 x11_3).f2)] 68 (0, 0))) ∧ Aside0 (Below w.heap.size w wc))
            case first =>
             have H := HC40.out
             clear HC40
             by_cases c45 : ((rd_T68 l0_2 x11_3).f1) = 2
             ·rw [if_pos c45] at H
              have c45b0 : (((rd_T68 l0_2 x11_3).f1) == 2) = true := z5 c45
              have c45b1 : (((rd_T68 l0_2 x11_3).f1) != 2) = false := z6 c45
              clear c45
              (first | rw [c45b0] | (simp only [i64_w, i32_w]; rw [c45b0]) | skip)
              have H' := z4 H
              clear H
              have hnb46 := NB214_195.out
              have hnc46 := NB195_214.out
              have hcz47_0 : w42.cell? ⟨gb214, 0, none⟩ = some (.string (⟨#[]⟩ : ByteArray)) := (zC BK214.out 0).trans rfl
              have hcz47_1 : w42.cell? ⟨gb214, 1, none⟩ = some (.int .i64 0) := (zC BK214.out 1).trans rfl
              have hcz47_2 : w42.cell? ⟨gb214, 2, none⟩ = some (.int .i64 0) := (zC BK214.out 2).trans rfl
              have hfz47_0 := zF BK214.out 0
              have hfz47_1 := zF BK214.out 1
              have hfz47_2 := zF BK214.out 2
              go_wp2
              go_meet
              case rel => exact ⟨_, (false), (by first | rfl | (simp; done) | (simp [*]; done)), H', ⟨by have := HJ1.out; have := HK2.out; have := HK3.out; first | omega | exact Nat.le_refl _⟩, ⟨by (with_reducible repeat (first | apply zM | apply zN | apply zO)); exact Kd.R_mono (Kd.R_far (p := ⟨gb214, 2, none⟩) (Kd.R_far (p := ⟨gb214, 1, none⟩) (Kd.R_far (p := ⟨gb214, 0, none⟩) (Kd.R_types HO_3.out BK214.out (by decide)) (fun _ hk => hk.2) (.string ((rd_T68 l0_2 x11_3).f0))) (fun _ hk => hk.2) (.int .i64 ((rd_T68 l0_2 x11_3).f1))) (fun _ hk => hk.2) (.int .i64 ((rd_T68 l0_2 x11_3).f2))) (fun _ hk => trivial)⟩, ⟨by (with_reducible repeat (first | refine zH ?_ _ | refine zI ?_ | refine zG ?_ _)); refine blk_far ?_ NB195_214.out _; (with_reducible repeat (first | refine zH ?_ _ | refine zI ?_ | refine zG ?_ _)); refine blk_far ?_ NB195_214.out _; (with_reducible repeat (first | refine zH ?_ _ | refine zI ?_ | refine zG ?_ _)); refine blk_far ?_ NB195_214.out _; (with_reducible repeat (first | refine zH ?_ _ | refine zI ?_ | refine zG ?_ _)); exact BK195.out⟩, ⟨by (with_reducible repeat (first | refine zH ?_ _ | refine zI ?_ | refine zG ?_ _)); refine blk_put (cs := #[.string ((rd_T68 l0_2 x11_3).f0), .int .i64 ((rd_T68 l0_2 x11_3).f1), .int .i64 0]) ?_ 2 _ rfl; (with_reducible repeat (first | refine zH ?_ _ | refine zI ?_ | refine zG ?_ _)); refine blk_put (cs := #[.string ((rd_T68 l0_2 x11_3).f0), .int .i64 0, .int .i64 0]) ?_ 1 _ rfl; (with_reducible repeat (first | refine zH ?_ _ | refine zI ?_ | refine zG ?_ _)); refine blk_put (cs := #[.string (⟨#[]⟩ : ByteArray), .int .i64 0, .int .i64 0]) ?_ 0 _ rfl; (with_reducible repeat (first | refine zH ?_ _ | refine zI ?_ | refine zG ?_ _)); exact BK214.out⟩, ⟨by repeat (first | exact HB.out | apply zA | apply zB | apply zD | refine zJ ?_ GE195.out | refine zJ ?_ GE214.out)⟩⟩
             ·rw [if_neg c45] at H
              have c45b0 : (((rd_T68 l0_2 x11_3).f1) == 2) = false := z7 c45
              have c45b1 : (((rd_T68 l0_2 x11_3).f1) != 2) = true := bne_iff_ne.mpr c45
              (first | rw [c45b0] | (simp only [i64_w, i32_w]; rw [c45b0]) | skip)
              replace H := z8 H
              obtain ⟨t215, A480, H⟩ := H
              replace H : (cotterref08_May.j4 k3 t197 x10_3 x11_3 (!t215) a0_0 l0_1 l0_2 ((rd_T68 l0_2 x11_3).f0) ((rd_T68 l0_2 x11_3).f1) ((rd_T68 l0_2 x11_3).f2)) = some r := H
              have A48 := z4 A480
              clear A480
              have H' := z4 H
              clear H
              have hnb49 := NB214_195.out
              have hnc49 := NB195_214.out
              have hcz50_0 : w42.cell? ⟨gb214, 0, none⟩ = some (.string (⟨#[]⟩ : ByteArray)) := (zC BK214.out 0).trans rfl
              have hcz50_1 : w42.cell? ⟨gb214, 1, none⟩ = some (.int .i64 0) := (zC BK214.out 1).trans rfl
              have hcz50_2 : w42.cell? ⟨gb214, 2, none⟩ = some (.int .i64 0) := (zC BK214.out 2).trans rfl
              have hfz50_0 := zF BK214.out 0
              have hfz50_1 := zF BK214.out 1
              have hfz50_2 := zF BK214.out 2
              obtain ⟨Ao51, co51, eo51⟩ := Kd.R_slice HO_3.out
              subst eo51
              go_wp2_with (first | (go_at_call 46; (with_reducible refine (cotterref08_has.calls k3 _ _ t197 ((rd_T68 l0_2 x11_3).f2) t215 _ ?side1 ?side2 A48.out).mono ?_); (case side1 => refine (zT (e := 3) (base := w.heap.size) (ok := fun k_ => True) (n := t197.length) (c := co51) ?_).2.2; exact (by (with_reducible repeat (first | apply zM | apply zN | apply zO)); exact (Kd.R_mono (Kd.R_far (p := ⟨gb214, 2, none⟩) (Kd.R_far (p := ⟨gb214, 1, none⟩) (Kd.R_far (p := ⟨gb214, 0, none⟩) (Kd.R_types HO_3.out BK214.out (by decide)) (fun _ hk => hk.2) (.string ((rd_T68 l0_2 x11_3).f0))) (fun _ hk => hk.2) (.int .i64 ((rd_T68 l0_2 x11_3).f1))) (fun _ hk => hk.2) (.int .i64 ((rd_T68 l0_2 x11_3).f2))) (fun _ h_ => h_.1)))); (case side2 => exact (zT HO_3.out).2.1); rintro e w' ⟨rfl, ⟨nd, rfl⟩⟩))
              go_meet
              case rel => exact ⟨_, (!t215), (by first | rfl | (simp; done) | (simp [*]; done)), H', ⟨by have := HJ1.out; have := HK2.out; have := HK3.out; first | omega | exact Nat.le_refl _⟩, ⟨by (with_reducible repeat (first | apply zM | apply zN | apply zO)); exact Kd.R_mono (Kd.R_far (p := ⟨gb214, 2, none⟩) (Kd.R_far (p := ⟨gb214, 1, none⟩) (Kd.R_far (p := ⟨gb214, 0, none⟩) (Kd.R_types HO_3.out BK214.out (by decide)) (fun _ hk => hk.2) (.string ((rd_T68 l0_2 x11_3).f0))) (fun _ hk => hk.2) (.int .i64 ((rd_T68 l0_2 x11_3).f1))) (fun _ hk => hk.2) (.int .i64 ((rd_T68 l0_2 x11_3).f2))) (fun _ hk => trivial)⟩, ⟨by (with_reducible repeat (first | refine zH ?_ _ | refine zI ?_ | refine zG ?_ _)); refine blk_far ?_ NB195_214.out _; (with_reducible repeat (first | refine zH ?_ _ | refine zI ?_ | refine zG ?_ _)); refine blk_far ?_ NB195_214.out _; (with_reducible repeat (first | refine zH ?_ _ | refine zI ?_ | refine zG ?_ _)); refine blk_far ?_ NB195_214.out _; (with_reducible repeat (first | refine zH ?_ _ | refine zI ?_ | refine zG ?_ _)); exact BK195.out⟩, ⟨by (with_reducible repeat (first | refine zH ?_ _ | refine zI ?_ | refine zG ?_ _)); refine blk_put (cs := #[.string ((rd_T68 l0_2 x11_3).f0), .int .i64 ((rd_T68 l0_2 x11_3).f1), .int .i64 0]) ?_ 2 _ rfl; (with_reducible repeat (first | refine zH ?_ _ | refine zI ?_ | refine zG ?_ _)); refine blk_put (cs := #[.string ((rd_T68 l0_2 x11_3).f0), .int .i64 0, .int .i64 0]) ?_ 1 _ rfl; (with_reducible repeat (first | refine zH ?_ _ | refine zI ?_ | refine zG ?_ _)); refine blk_put (cs := #[.string (⟨#[]⟩ : ByteArray), .int .i64 0, .int .i64 0]) ?_ 0 _ rfl; (with_reducible repeat (first | refine zH ?_ _ | refine zI ?_ | refine zG ?_ _)); exact BK214.out⟩, ⟨by repeat (first | exact HB.out | apply zA | apply zB | apply zD | refine zJ ?_ GE195.out | refine zJ ?_ GE214.out)⟩⟩
            case rest =>
             clear HC40
             try clear c1
             try clear c2
             try clear p2
             try clear q2
             try clear hx2
             try clear c3
             try clear c4
             try clear c4b0
             try clear c4b1
             try clear c6
             try clear c6b0
             try clear c6b1
             try clear p6
             try clear c11
             try clear c13
             try clear c19
             try clear c19b0
             try clear c20
             try clear c20b0
             try clear p20
             try clear q20
             try clear hx20
             try clear p21
             try clear q21
             try clear hx21
             try clear c25
             try clear c28
             try clear c29
             try clear c29b0
             try clear c30
             try clear c30b0
             try clear c31
             try clear c31b0
             try clear c31b1
             try clear c32
             try clear c32b0
             try clear c33
             try clear c33b0
             try clear c33b1
             try clear c34
             try clear c34b0
             try clear c38
             try clear c38b0
             try clear c39
             try clear c39b0
             try clear c43
             try clear c45
             try clear c45b0
             try clear c45b1
             try clear c46
             try clear c49
             try clear hcz15_0
             try clear hcz15_1
             try clear hcz15_2
             try clear hcz17_0
             try clear hcz17_1
             try clear hcz17_2
             try clear hcz35_0
             try clear hcz35_1
             try clear hcz35_2
             try clear hcz36_0
             try clear hcz36_1
             try clear hcz36_2
             try clear hcz41_0
             try clear hcz41_1
             try clear hcz41_2
             try clear hcz44_0
             try clear hcz44_1
             try clear hcz44_2
             try clear hcz47_0
             try clear hcz47_1
             try clear hcz47_2
             try clear hcz50_0
             try clear hcz50_1
             try clear hcz50_2
             try clear hcz5_0
             try clear hcz5_1
             try clear hcz5_2
             try clear hcz7_0
             try clear hcz7_1
             try clear hcz7_2
             try clear hcz9_0
             try clear hcz9_1
             try clear hcz9_2
             try clear hfz15_0
             try clear hfz15_1
             try clear hfz15_2
             try clear hfz17_0
             try clear hfz17_1
             try clear hfz17_2
             try clear hfz35_0
             try clear hfz35_1
             try clear hfz35_2
             try clear hfz36_0
             try clear hfz36_1
             try clear hfz36_2
             try clear hfz41_0
             try clear hfz41_1
             try clear hfz41_2
             try clear hfz44_0
             try clear hfz44_1
             try clear hfz44_2
             try clear hfz47_0
             try clear hfz47_1
             try clear hfz47_2
             try clear hfz50_0
             try clear hfz50_1
             try clear hfz50_2
             try clear hfz5_0
             try clear hfz5_1
             try clear hfz5_2
             try clear hfz7_0
             try clear hfz7_1
             try clear hfz7_2
             try clear hfz9_0
             try clear hfz9_1
             try clear hfz9_2
             try clear hx205_0
             try clear hx205_1
             try clear hx205_2
             try clear hx205_3
             try clear hx207_0
             try clear hx207_1
             try clear hx207_2
             try clear hx207_3
             try clear hx209_0
             try clear hx209_1
             try clear hx209_2
             try clear hx209_3
             try clear hx211_0
             try clear hx211_1
             try clear hx211_2
             try clear hx211_3
             try clear hx212_0
             try clear hx212_1
             try clear hx212_2
             try clear hx212_3
             try clear hx213_0
             try clear hx213_1
             try clear hx213_2
             try clear p2
             try clear p20
             try clear p205
             try clear p207
             try clear p209
             try clear p21
             try clear p211
             try clear p212
             try clear p213
             try clear p6
             try clear q2
             try clear q20
             try clear q205
             try clear q207
             try clear q209
             try clear q21
             try clear q211
             try clear q212
             try clear q213
             obtain ⟨kq, x131_39, rfl, HA, HJ39, HO_3, BK195, BK214, HB⟩ := hcut
             cases kq with
             | zero => exact absurd HA.out (by simp [cotterref08_May.j4])
             | succ kj39 =>
              have H := HA.out
              clear HA
              simp only [cotterref08_May.j4] at H
              by_cases c52 : x131_39 = true
              ·subst c52
               have H1 : (some false) = some r := by rw [if_pos rfl] at H; exact H
               clear H
               have H := H1
               clear H1
               obtain rfl := Option.some.inj H
               go_wp2
               go_ret
               exact ⟨by first | rfl | (simp [errW_none, errW_some] <;> rfl) | (simp [*, errW_none, errW_some] <;> rfl), by repeat (first | exact HB.out | apply zA | apply zB | apply zD | refine zJ ?_ GE195.out | refine zJ ?_ GE214.out)⟩
              ·replace c52 := Bool.eq_false_iff.mpr c52
               subst c52
               have H1 : (if ((rd_T68 l0_2 x11_3).f1) = 3 then (cotterref08_May.l1 kj39 t197 (wrap64 (x10_3 + 1)) (wrap64 (x11_3 + 1)) a0_0 l0_1 l0_2) else (cotterref08_May.l1 kj39 t197 x10_3 (wrap64 (x11_3 + 1)) a0_0 l0_1 l0_2)) = some r := by rw [if_neg (show ¬ (false = true) by decide)] at H; exact H
               clear H
               have H := H1
               clear H1
               by_cases c53 : ((rd_T68 l0_2 x11_3).f1) = 3
               ·rw [if_pos c53] at H
                have c53b0 : (((rd_T68 l0_2 x11_3).f1) == 3) = true := z5 c53
                have c53b1 : (((rd_T68 l0_2 x11_3).f1) != 3) = false := z6 c53
                clear c53
                have H' := z4 H
                clear H
                have hnb54 := NB214_195.out
                have hnc54 := NB195_214.out
                have hcz55_0 : wc.cell? ⟨gb214, 0, none⟩ = some (.string ((rd_T68 l0_2 x11_3).f0)) := (zC BK214.out 0).trans rfl
                have hcz55_1 : wc.cell? ⟨gb214, 1, none⟩ = some (.int .i64 ((rd_T68 l0_2 x11_3).f1)) := (zC BK214.out 1).trans rfl
                have hcz55_2 : wc.cell? ⟨gb214, 2, none⟩ = some (.int .i64 ((rd_T68 l0_2 x11_3).f2)) := (zC BK214.out 2).trans rfl
                have hfz55_0 := zF BK214.out 0
                have hfz55_1 := zF BK214.out 1
                have hfz55_2 := zF BK214.out 2
                go_wp2
                go_roundg kj39
                case measure => have := HJ1.out; have := HK2.out; have := HK3.out; have := HJ39.out; omega
                case rel => exact ⟨(wrap64 (x10_3 + 1)), (wrap64 (x11_3 + 1)), (by first | rfl | (simp; done) | (simp [*]; done)), (by first | rfl | (simp; done) | (simp [*]; done)), H', ⟨by have := HJ1.out; have := HK2.out; have := HK3.out; have := HJ39.out; omega⟩, ⟨by (with_reducible repeat (first | apply zM | apply zN | apply zO)); exact HO_3.out⟩, ⟨by (with_reducible repeat (first | refine zH ?_ _ | refine zI ?_ | refine zG ?_ _)); exact BK195.out⟩, ⟨by repeat (first | exact HB.out | apply zA | apply zB | apply zD | refine zJ ?_ GE195.out | refine zJ ?_ GE214.out)⟩⟩
               ·rw [if_neg c53] at H
                have c53b0 : (((rd_T68 l0_2 x11_3).f1) == 3) = false := z7 c53
                have c53b1 : (((rd_T68 l0_2 x11_3).f1) != 3) = true := bne_iff_ne.mpr c53
                have H' := z4 H
                clear H
                have hnb56 := NB214_195.out
                have hnc56 := NB195_214.out
                have hcz57_0 : wc.cell? ⟨gb214, 0, none⟩ = some (.string ((rd_T68 l0_2 x11_3).f0)) := (zC BK214.out 0).trans rfl
                have hcz57_1 : wc.cell? ⟨gb214, 1, none⟩ = some (.int .i64 ((rd_T68 l0_2 x11_3).f1)) := (zC BK214.out 1).trans rfl
                have hcz57_2 : wc.cell? ⟨gb214, 2, none⟩ = some (.int .i64 ((rd_T68 l0_2 x11_3).f2)) := (zC BK214.out 2).trans rfl
                have hfz57_0 := zF BK214.out 0
                have hfz57_1 := zF BK214.out 1
                have hfz57_2 := zF BK214.out 2
                go_wp2
                go_roundg kj39
                case measure => have := HJ1.out; have := HK2.out; have := HK3.out; have := HJ39.out; omega
                case rel => exact ⟨(x10_3), (wrap64 (x11_3 + 1)), (by first | rfl | (simp; done) | (simp [*]; done)), (by first | rfl | (simp; done) | (simp [*]; done)), H', ⟨by have := HJ1.out; have := HK2.out; have := HK3.out; have := HJ39.out; omega⟩, ⟨by (with_reducible repeat (first | apply zM | apply zN | apply zO)); exact HO_3.out⟩, ⟨by (with_reducible repeat (first | refine zH ?_ _ | refine zI ?_ | refine zG ?_ _)); exact BK195.out⟩, ⟨by repeat (first | exact HB.out | apply zA | apply zB | apply zD | refine zJ ?_ GE195.out | refine zJ ?_ GE214.out)⟩⟩
           ·rw [if_neg c39] at H
            exact absurd H (by simp)
          ·rw [if_neg c38] at H
           have c38b0 : decide (x11_3 < (l0_2.length : Int)) = false := decide_eq_false c38
           clear c38
           by_cases c58 : x10_3 ≥ 1
           ·rw [if_pos c58] at H
            have c58b0 : decide (1 ≤ x10_3) = true := decide_eq_true c58
            clear c58
            obtain rfl := Option.some.inj H
            have hcz59_0 : wr.cell? ⟨gb195, 0, none⟩ = some (.string a0_0) := (zC BK195.out 0).trans rfl
            have hcz59_1 : wr.cell? ⟨gb195, 1, none⟩ = some (.slice A0_1 l0_1.length c0_1) := (zC BK195.out 1).trans rfl
            have hcz59_2 : wr.cell? ⟨gb195, 2, none⟩ = some (.slice A0_2 l0_2.length c0_2) := (zC BK195.out 2).trans rfl
            have hfz59_0 := zF BK195.out 0
            have hfz59_1 := zF BK195.out 1
            have hfz59_2 := zF BK195.out 2
            go_wp2
            go_ret
            exact ⟨by first | rfl | (simp [errW_none, errW_some] <;> rfl) | (simp [*, errW_none, errW_some] <;> rfl), by repeat (first | exact HB.out | apply zA | apply zB | apply zD | refine zJ ?_ GE195.out)⟩
           ·rw [if_neg c58] at H
            have c58b0 : decide (1 ≤ x10_3) = false := decide_eq_false c58
            clear c58
            obtain rfl := Option.some.inj H
            have hcz60_0 : wr.cell? ⟨gb195, 0, none⟩ = some (.string a0_0) := (zC BK195.out 0).trans rfl
            have hcz60_1 : wr.cell? ⟨gb195, 1, none⟩ = some (.slice A0_1 l0_1.length c0_1) := (zC BK195.out 1).trans rfl
            have hcz60_2 : wr.cell? ⟨gb195, 2, none⟩ = some (.slice A0_2 l0_2.length c0_2) := (zC BK195.out 2).trans rfl
            have hfz60_0 := zF BK195.out 0
            have hfz60_1 := zF BK195.out 1
            have hfz60_2 := zF BK195.out 2
            go_wp2
            go_ret
            exact ⟨by first | rfl | (simp [errW_none, errW_some] <;> rfl) | (simp [*, errW_none, errW_some] <;> rfl), by repeat (first | exact HB.out | apply zA | apply zB | apply zD | refine zJ ?_ GE195.out)⟩
    ·replace c13 := Bool.eq_false_iff.mpr c13
     subst c13
     have H1 : (some false) = some r := by rw [if_neg (show ¬ (false = true) by decide)] at H; exact H
     clear H
     have H := H1
     clear H1
     obtain rfl := Option.some.inj H
     have hcz61_0 : wc.cell? ⟨gb195, 0, none⟩ = some (.string a0_0) := (zC BK195.out 0).trans rfl
     have hcz61_1 : wc.cell? ⟨gb195, 1, none⟩ = some (.slice A0_1 l0_1.length c0_1) := (zC BK195.out 1).trans rfl
     have hcz61_2 : wc.cell? ⟨gb195, 2, none⟩ = some (.slice A0_2 l0_2.length c0_2) := (zC BK195.out 2).trans rfl
     have hfz61_0 := zF BK195.out 0
     have hfz61_1 := zF BK195.out 1
     have hfz61_2 := zF BK195.out 2
     go_wp2_with (first | ((with_reducible refine gate_callee (f := 19) rfl ?_); refine goesL_ (some 38) rfl rfl Tryd.func19 (by kernel_rfl) rfl #[.string a0_0] rfl (by (try simp only [z9, List.map_cons, List.map_nil]); first | done | rfl | (simp only [z9a, z9b]; rfl)) ?_; (with_reducible refine (cotterref08_Starts.calls kj1 a0_0 t197 false _ A12.out).mono ?_); rintro e w62 ⟨v199, rfl, ho0, hb⟩; refine ⟨_, rfl, ?_⟩; have n0_ := z4 (zU ho0 (zL (by repeat (first | exact HB.out | apply zA | apply zB | apply zD | refine zJ ?_ GE195.out)))); have n1_ := z4 (blk_below (g := gb195) (o := .cells #[.string a0_0, .slice A0_1 l0_1.length c0_1, .slice A0_2 l0_2.length c0_2] 25 (0, 0)) (by (with_reducible repeat (first | refine zH ?_ _ | refine zI ?_ | refine zG ?_ _)); exact BK195.out) hb); have n2_ := z4 (zK (by repeat (first | exact HB.out | apply zA | apply zB | apply zD | refine zJ ?_ GE195.out)) hb); clear BK195; clear HB; have HO200 := n0_; have BK195 := n1_; have HB := n2_; clear n0_ n1_ n2_; (try clear hb); (try clear hb2); (try clear hk); (try clear hi); (try clear ho0)))
     go_ret
     exact ⟨by first | rfl | (simp [errW_none, errW_some] <;> rfl) | (simp [*, errW_none, errW_some] <;> rfl), by repeat (first | exact HB.out | apply zA | apply zB | apply zD | refine zJ ?_ GE195.out)⟩
end Go.Proofs.YtimhcpmfhebbhaaDoor.M
namespace Go.Proofs.YtimhcpmfhebbhaaDoor.M
open Go.RowKit Go.Proofs.YtimhcpmfhebbhaaDoorW.PrintWords Go.Proofs.YtimhcpmfhebbhaaDoorW.PrintLast
set_option linter.unusedVariables false
set_option linter.unusedSimpArgs false
def cotterref08_Check.f (k : Nat) (a0_0 : ByteArray) (l0_1 : List Int) (l0_2 : List (S68)) : Option (Int) := (cotterref08_May.f k a0_0 l0_1 l0_2).bind fun t217 => (if t217 = true then (some 0) else (some 9))
set_option maxHeartbeats 8000000 in
set_option maxRecDepth 100000 in
theorem cotterref08_Check.calls (k : Nat) (a0_0 : ByteArray) (A0_1 : Option Addr) (c0_1 : Nat) (l0_1 : List Int) (A0_2 : Option Addr) (c0_2 : Nat) (l0_2 : List (S68)) (r : Int) (w : World) (hr0_1 : Kd.C (Kd.int .i64) w A0_1 l0_1.length l0_1) (hc0_1 : l0_1.length ≤ c0_1) (hr0_2 : Kd.C k68 w A0_2 l0_2.length l0_2) (hc0_2 : l0_2.length ≤ c0_2) (h : cotterref08_Check.f k a0_0 l0_1 l0_2 = some r) :
 Calls Tryd.prog 15 #[.agg #[.string a0_0, .slice A0_1 l0_1.length c0_1, .slice A0_2 l0_2.length c0_2]] w fun e w' => e = .returned (.int .i64 r) ∧ Below w.heap.size w w' := by
 have hu25 := Tryd.underlying25
 have HR0_1 := z4 hr0_1
 have HC0_1 := z4 hc0_1
 clear hr0_1 hc0_1
 have HR0_2 := z4 hr0_2
 have HC0_2 := z4 hc0_2
 clear hr0_2 hc0_2
 have HB := z4 (Below.refl w.heap.size w)
 have H : ((cotterref08_May.f k a0_0 l0_1 l0_2).bind fun t217 => (if t217 = true then (some 0) else (some 9))) = some r := h
 clear h
 replace H := z8 H
 obtain ⟨t217, A20, H⟩ := H
 replace H : (if t217 = true then (some 0) else (some 9)) = some r := H
 have A2 := z4 A20
 clear A20
 by_cases c3 : t217 = true
 ·subst c3
  have H1 : (some 0) = some r := by rw [if_pos rfl] at H; exact H
  clear H
  have H := H1
  clear H1
  obtain rfl := Option.some.inj H
  go_enter Tryd.func15, Tryd.ntmps15
  go_wp2_with (first | ((with_reducible refine gate_dst (N := 1) rfl ?_); refine box_event ?hg (N := 1) ?hd (cs := #[.string a0_0, .slice A0_1 l0_1.length c0_1, .slice A0_2 l0_2.length c0_2]) (t := 25) ?hr ?_; (case hd => rfl); (case hg => rfl); (case hr => first | (go_simp; done) | (go_simp; rfl)); intro gb216 hg w4 hbox hb; have n0_ := z4 (zK (by repeat (first | exact HB.out | apply zA | apply zB | apply zD)) hb); have n1_ := z4 (hbox); have n2_ := z4 ((by rw [hg]; exact (zL (by repeat (first | exact HB.out | apply zA | apply zB | apply zD))) : w.heap.size ≤ gb216)); have n3_ := z4 ((by rw [hg]; exact (zL (by repeat (first | exact HB.out | apply zA | apply zB | apply zD))) : w.heap.size ≤ gb216)); clear HB; have HB := n0_; have BK216 := n1_; have GW216 := n2_; have GE216 := n3_; clear n0_ n1_ n2_ n3_; clear hb hbox hg; have hcz5_0 : w4.cell? ⟨gb216, 0, none⟩ = some (.string a0_0) := (zC BK216.out 0).trans rfl; have hcz5_1 : w4.cell? ⟨gb216, 1, none⟩ = some (.slice A0_1 l0_1.length c0_1) := (zC BK216.out 1).trans rfl; have hcz5_2 : w4.cell? ⟨gb216, 2, none⟩ = some (.slice A0_2 l0_2.length c0_2) := (zC BK216.out 2).trans rfl; have hfz5_0 := zF BK216.out 0; have hfz5_1 := zF BK216.out 1; have hfz5_2 := zF BK216.out 2) | ((with_reducible refine gate_callee (f := 29) rfl ?_); refine goesL_ (some 4) rfl rfl Tryd.func29 (by kernel_rfl) rfl #[.agg #[.string a0_0, .slice A0_1 l0_1.length c0_1, .slice A0_2 l0_2.length c0_2]] rfl (by (try simp only [z9, List.map_cons, List.map_nil]); first | done | rfl | (simp only [z9a, z9b]; rfl)) ?_; (with_reducible refine (cotterref08_May.calls k a0_0 _ _ l0_1 _ _ l0_2 true _ ?side1 ?side2 ?side3 ?side4 A2.out).mono ?_); (case side1 => repeat (first | exact (zS HR0_1.out HB.out) | (with_reducible refine zP ?_ _) | (with_reducible refine zQ ?_ _) | (with_reducible refine zR ?_))); (case side2 => exact HC0_1.out); (case side3 => repeat (first | exact (zS HR0_2.out HB.out) | (with_reducible refine zP ?_ _) | (with_reducible refine zQ ?_ _) | (with_reducible refine zR ?_))); (case side4 => exact HC0_2.out); rintro e w6 ⟨rfl, hb⟩; refine ⟨_, rfl, ?_⟩; have n0_ := z4 (blk_below (g := gb216) (o := .cells #[.string a0_0, .slice A0_1 l0_1.length c0_1, .slice A0_2 l0_2.length c0_2] 25 (0, 0)) (by (with_reducible repeat (first | refine zH ?_ _ | refine zI ?_ | refine zG ?_ _)); exact BK216.out) hb); have n1_ := z4 (zK (by repeat (first | exact HB.out | apply zA | apply zB | apply zD | refine zJ ?_ GE216.out)) hb); clear BK216; clear HB; have BK216 := n0_; have HB := n1_; clear n0_ n1_; (try clear hb); (try clear hb2); (try clear hk); (try clear hi)))
  go_ret
  exact ⟨by first | rfl | (simp [errW_none, errW_some] <;> rfl) | (simp [*, errW_none, errW_some] <;> rfl), by repeat (first | exact HB.out | apply zA | apply zB | apply zD | refine zJ ?_ GE216.out)⟩
 ·replace c3 := Bool.eq_false_iff.mpr c3
  subst c3
  have H1 : (some 9) = some r := by rw [if_neg (show ¬ (false = true) by decide)] at H; exact H
  clear H
  have H := H1
  clear H1
  obtain rfl := Option.some.inj H
  go_enter Tryd.func15, Tryd.ntmps15
  go_wp2_with (first | ((with_reducible refine gate_dst (N := 1) rfl ?_); refine box_event ?hg (N := 1) ?hd (cs := #[.string a0_0, .slice A0_1 l0_1.length c0_1, .slice A0_2 l0_2.length c0_2]) (t := 25) ?hr ?_; (case hd => rfl); (case hg => rfl); (case hr => first | (go_simp; done) | (go_simp; rfl)); intro gb216 hg w7 hbox hb; have n0_ := z4 (zK (by repeat (first | exact HB.out | apply zA | apply zB | apply zD)) hb); have n1_ := z4 (hbox); have n2_ := z4 ((by rw [hg]; exact (zL (by repeat (first | exact HB.out | apply zA | apply zB | apply zD))) : w.heap.size ≤ gb216)); have n3_ := z4 ((by rw [hg]; exact (zL (by repeat (first | exact HB.out | apply zA | apply zB | apply zD))) : w.heap.size ≤ gb216)); clear HB; have HB := n0_; have BK216 := n1_; have GW216 := n2_; have GE216 := n3_; clear n0_ n1_ n2_ n3_; clear hb hbox hg; have hcz8_0 : w7.cell? ⟨gb216, 0, none⟩ = some (.string a0_0) := (zC BK216.out 0).trans rfl; have hcz8_1 : w7.cell? ⟨gb216, 1, none⟩ = some (.slice A0_1 l0_1.length c0_1) := (zC BK216.out 1).trans rfl; have hcz8_2 : w7.cell? ⟨gb216, 2, none⟩ = some (.slice A0_2 l0_2.length c0_2) := (zC BK216.out 2).trans rfl; have hfz8_0 := zF BK216.out 0; have hfz8_1 := zF BK216.out 1; have hfz8_2 := zF BK216.out 2) | ((with_reducible refine gate_callee (f := 29) rfl ?_); refine goesL_ (some 4) rfl rfl Tryd.func29 (by kernel_rfl) rfl #[.agg #[.string a0_0, .slice A0_1 l0_1.length c0_1, .slice A0_2 l0_2.length c0_2]] rfl (by (try simp only [z9, List.map_cons, List.map_nil]); first | done | rfl | (simp only [z9a, z9b]; rfl)) ?_; (with_reducible refine (cotterref08_May.calls k a0_0 _ _ l0_1 _ _ l0_2 false _ ?side1 ?side2 ?side3 ?side4 A2.out).mono ?_); (case side1 => repeat (first | exact (zS HR0_1.out HB.out) | (with_reducible refine zP ?_ _) | (with_reducible refine zQ ?_ _) | (with_reducible refine zR ?_))); (case side2 => exact HC0_1.out); (case side3 => repeat (first | exact (zS HR0_2.out HB.out) | (with_reducible refine zP ?_ _) | (with_reducible refine zQ ?_ _) | (with_reducible refine zR ?_))); (case side4 => exact HC0_2.out); rintro e w9 ⟨rfl, hb⟩; refine ⟨_, rfl, ?_⟩; have n0_ := z4 (blk_below (g := gb216) (o := .cells #[.string a0_0, .slice A0_1 l0_1.length c0_1, .slice A0_2 l0_2.length c0_2] 25 (0, 0)) (by (with_reducible repeat (first | refine zH ?_ _ | refine zI ?_ | refine zG ?_ _)); exact BK216.out) hb); have n1_ := z4 (zK (by repeat (first | exact HB.out | apply zA | apply zB | apply zD | refine zJ ?_ GE216.out)) hb); clear BK216; clear HB; have BK216 := n0_; have HB := n1_; clear n0_ n1_; (try clear hb); (try clear hb2); (try clear hk); (try clear hi)))
  go_ret
  exact ⟨by first | rfl | (simp [errW_none, errW_some] <;> rfl) | (simp [*, errW_none, errW_some] <;> rfl), by repeat (first | exact HB.out | apply zA | apply zB | apply zD | refine zJ ?_ GE216.out)⟩
def cotterref08_Threads.l0 : Nat → List ByteArray → Int → ByteArray → List Int → List (S68) → Option (List ByteArray)
 | 0, _, _, _, _, _ => none
 | k + 1, x3, x4, x219000, x219001, x219002 => if x4 < (x219002.length : Int) then (if 0 ≤ x4 then (if ((rd_T68 x219002 x4).f1) = 3 then (if x3.length < 8796093022208 then (cotterref08_Threads.l0 k (x3 ++ [(rd_T68 x219002 x4).f0]) (wrap64 (x4 + 1)) x219000 x219001 x219002) else (none)) else (cotterref08_Threads.l0 k x3 (wrap64 (x4 + 1)) x219000 x219001 x219002)) else (none)) else (some x3)
def cotterref08_Threads.f (k : Nat) (a0_0 : ByteArray) (l0_1 : List Int) (l0_2 : List (S68)) : Option (List ByteArray) := cotterref08_Threads.l0 k ([] : List ByteArray) 0 a0_0 l0_1 l0_2
set_option maxHeartbeats 8000000 in
set_option maxRecDepth 100000 in
theorem cotterref08_Threads.calls (k : Nat) (a0_0 : ByteArray) (A0_1 : Option Addr) (c0_1 : Nat) (l0_1 : List Int) (A0_2 : Option Addr) (c0_2 : Nat) (l0_2 : List (S68)) (r : List ByteArray) (w : World) (hr0_1 : Kd.C (Kd.int .i64) w A0_1 l0_1.length l0_1) (hc0_1 : l0_1.length ≤ c0_1) (hr0_2 : Kd.C k68 w A0_2 l0_2.length l0_2) (hc0_2 : l0_2.length ≤ c0_2) (h : cotterref08_Threads.f k a0_0 l0_1 l0_2 = some r) :
 Calls Tryd.prog 13 #[.agg #[.string a0_0, .slice A0_1 l0_1.length c0_1, .slice A0_2 l0_2.length c0_2]] w fun e w' => ∃ v0_ : Value, e = .returned (v0_) ∧ Kd.R Kd.string 9 w' w.heap.size (fun _ => True) v0_ r ∧ Below w.heap.size w w' := by
 have hu25 := Tryd.underlying25
 have HR0_1 := z4 hr0_1
 have HC0_1 := z4 hc0_1
 clear hr0_1 hc0_1
 have HR0_2 := z4 hr0_2
 have HC0_2 := z4 hc0_2
 clear hr0_2 hc0_2
 have HB := z4 (Below.refl w.heap.size w)
 have H : (cotterref08_Threads.l0 k ([] : List ByteArray) 0 a0_0 l0_1 l0_2) = some r := h
 clear h
 have H' := z4 H
 clear H
 go_enter Tryd.func13, Tryd.ntmps13
 go_wp2_with (first | ((with_reducible refine gate_dst (N := 1) rfl ?_); refine box_event ?hg (N := 1) ?hd (cs := #[.string a0_0, .slice A0_1 l0_1.length c0_1, .slice A0_2 l0_2.length c0_2]) (t := 25) ?hr ?_; (case hd => rfl); (case hg => rfl); (case hr => first | (go_simp; done) | (go_simp; rfl)); intro gb218 hg w2 hbox hb; have n0_ := z4 (zK (by repeat (first | exact HB.out | apply zA | apply zB | apply zD)) hb); have n1_ := z4 (hbox); have n2_ := z4 ((by rw [hg]; exact (zL (by repeat (first | exact HB.out | apply zA | apply zB | apply zD))) : w.heap.size ≤ gb218)); have n3_ := z4 ((by rw [hg]; exact (zL (by repeat (first | exact HB.out | apply zA | apply zB | apply zD))) : w.heap.size ≤ gb218)); clear HB; have HB := n0_; have BK218 := n1_; have GW218 := n2_; have GE218 := n3_; clear n0_ n1_ n2_ n3_; clear hb hbox hg))
 go_loopg [3, 4] k (fun kq v3 v4 w' => ∃ (x3_1 : List ByteArray) (x4_1 : Int), v4 = .int .i64 x4_1 ∧ Aside0 (cotterref08_Threads.l0 kq x3_1 x4_1 a0_0 l0_1 l0_2 = some r) ∧ Aside0 (kq ≤ k) ∧ Aside0 (Kd.R Kd.string 9 w' w.heap.size (fun _ => True) v3 x3_1) ∧ Aside0 (w'.heap[gb218]? = some (.cells #[.string a0_0, (.slice A0_1 l0_1.length c0_1), (.slice A0_2 l0_2.length c0_2)] 25 (0, 0))) ∧ Aside0 (Below w.heap.size w w'))
 case atStart => exact ⟨(([] : List ByteArray)), (0), (by first | rfl | (simp; done) | (simp [*]; done)), H', ⟨Nat.le_refl _⟩, ⟨by first | exact Kd.R_nil _ _ _ _ _ | exact Kd.N_nil _ _ _ _ _ | exact Kd.V_nil _ _ _ _ _ | exact Kd.Q_nil _ _ _ _ _ | exact Kd.S_nil _ _ _ _ _⟩, ⟨by (with_reducible repeat (first | refine zH ?_ _ | refine zI ?_ | refine zG ?_ _)); exact BK218.out⟩, ⟨by repeat (first | exact HB.out | apply zA | apply zB | apply zD | refine zJ ?_ GE218.out)⟩⟩
 case round =>
  clear H'
  try clear c1
  try clear p2
  obtain ⟨x3_1, x4_1, rfl, HA, HK1, HO_3, BK218, HB⟩ := hrel
  cases gk with
  | zero => exact absurd HA.out (by simp [cotterref08_Threads.l0])
  | succ k1 =>
   have H := HA.out
   clear HA
   simp only [cotterref08_Threads.l0] at H
   by_cases c3 : x4_1 < (l0_2.length : Int)
   ·rw [if_pos c3] at H
    have c3b0 : decide (x4_1 < (l0_2.length : Int)) = true := decide_eq_true c3
    clear c3
    by_cases c4 : 0 ≤ x4_1
    ·rw [if_pos c4] at H
     have c4b0 : decide (0 ≤ x4_1) = true := decide_eq_true c4
     clear c4
     by_cases c5 : ((rd_T68 l0_2 x4_1).f1) = 3
     ·rw [if_pos c5] at H
      have c5b0 : (((rd_T68 l0_2 x4_1).f1) == 3) = true := z5 c5
      have c5b1 : (((rd_T68 l0_2 x4_1).f1) != 3) = false := z6 c5
      clear c5
      by_cases c6 : x3_1.length < 8796093022208
      ·rw [if_pos c6] at H
       have LMc6 := z4 c6
       clear c6
       obtain ⟨y221, hy221⟩ : ∃ y_ : List ByteArray, y_ = (x3_1 ++ [(rd_T68 l0_2 x4_1).f0]) := ⟨_, rfl⟩
       replace H : (cotterref08_Threads.l0 k1 y221 (wrap64 (x4_1 + 1)) a0_0 l0_1 l0_2) = some r := by first | (rw [hy221]; with_reducible exact H) | (have H2_ := (Option.bind_some _ _).symm.trans H; rw [hy221]; with_reducible exact H2_) | (have H2_ := (Option.bind_some _ _).symm.trans H; with_reducible exact H2_) | with_reducible exact H | (rw [hy221]; exact H) | exact H
       have Ny221 := z4 hy221
       clear hy221
       have H' := z4 H
       clear H
       have hcz7_0 : wr.cell? ⟨gb218, 0, none⟩ = some (.string a0_0) := (zC BK218.out 0).trans rfl
       have hcz7_1 : wr.cell? ⟨gb218, 1, none⟩ = some (.slice A0_1 l0_1.length c0_1) := (zC BK218.out 1).trans rfl
       have hcz7_2 : wr.cell? ⟨gb218, 2, none⟩ = some (.slice A0_2 l0_2.length c0_2) := (zC BK218.out 2).trans rfl
       have hfz7_0 := zF BK218.out 0
       have hfz7_1 := zF BK218.out 1
       have hfz7_2 := zF BK218.out 2
       have p219 : 0 ≤ (x4_1 : Int) := of_decide_eq_true (by first | (with_reducible assumption) | assumption)
       have q219 : x4_1 < (l0_2.length : Int) := of_decide_eq_true (by first | (with_reducible assumption) | assumption)
       obtain ⟨ad219, e219, hx219_0, hx219_1, hx219_2⟩ := at_T68 HR0_2.out x4_1 p219 q219
       cases e219
       replace hx219_0 := (HB.out.cell (World.block_lt_of_cell? w _ hx219_0)).trans hx219_0
       replace hx219_1 := (HB.out.cell (World.block_lt_of_cell? w _ hx219_1)).trans hx219_1
       replace hx219_2 := (HB.out.cell (World.block_lt_of_cell? w _ hx219_2)).trans hx219_2
       replace p219 := eq_true p219
       replace q219 := eq_true q219
       have p220 : 0 ≤ (x4_1 : Int) := of_decide_eq_true (by first | (with_reducible assumption) | assumption)
       have q220 : x4_1 < (l0_2.length : Int) := of_decide_eq_true (by first | (with_reducible assumption) | assumption)
       obtain ⟨ad220, e220, hx220_0, hx220_1, hx220_2⟩ := at_T68 HR0_2.out x4_1 p220 q220
       obtain rfl : ad219 = ad220 := (by injection e220)
       replace hx220_0 := (HB.out.cell (World.block_lt_of_cell? w _ hx220_0)).trans hx220_0
       replace hx220_1 := (HB.out.cell (World.block_lt_of_cell? w _ hx220_1)).trans hx220_1
       replace hx220_2 := (HB.out.cell (World.block_lt_of_cell? w _ hx220_2)).trans hx220_2
       replace p220 := eq_true p220
       replace q220 := eq_true q220
       go_wp2_with (first | ((with_reducible refine gate_builtin (b := .append) (xs := #[.tmp 19, .tmp 26]) rfl ?_); at_builtin; refine Kd.R_append Kd.string (w0 := w) w.heap.size rfl (.tmp 19) (.tmp 26) 32 9 (.string ⟨#[]⟩) 16 rfl Tryd.underlying32 info9 rfl (by decide) (by omega) u3 x3_1 ((rd_T68 l0_2 x4_1).f0) [.string ((rd_T68 l0_2 x4_1).f0)] (fun _ => True) (fun _ => False) rfl rfl ?aP (fun _ hk => hk.elim) ?aF ?aO ?aB ?aS ?aL ?_; (case aP => exact rfl); (case aB => exact (by repeat (first | exact HB.out | apply zA | apply zB | apply zD | refine zJ ?_ GE218.out))); (case aF => exact (fun _ _ => trivial)); (case aO => exact (by (with_reducible repeat (first | apply zM | apply zN | apply zO)); exact HO_3.out)); (case aS => exact (zL (by repeat (first | exact HB.out | apply zA | apply zB | apply zD | refine zJ ?_ GE218.out)))); (case aL => have := LMc6.out; omega); intro v222 w8 ho hb hg hat; rw [← Ny221.out] at ho; have n0_ := z4 (blk_grown (g := gb218) (o := .cells #[.string a0_0, .slice A0_1 l0_1.length c0_1, .slice (some ad219) l0_2.length c0_2] 25 (0, 0)) (by (with_reducible repeat (first | refine zH ?_ _ | refine zI ?_ | refine zG ?_ _)); exact BK218.out) hg (Kd.R_ne HO_3.out BK218.out (by decide))); have n1_ := z4 (hb); have n2_ := z4 (ho); clear BK218; clear HB; clear HO_3; have BK218 := n0_; have HB := n1_; have HO223 := n2_; clear n0_ n1_ n2_; clear ho hb hg hat))
       go_roundg k1
       case measure => have := HK1.out; omega
       case rel => exact ⟨(y221), (wrap64 (x4_1 + 1)), (by first | rfl | (simp; done) | (simp [*]; done)), H', ⟨by have := HK1.out; omega⟩, ⟨by (with_reducible repeat (first | apply zM | apply zN | apply zO)); exact HO223.out⟩, ⟨by (with_reducible repeat (first | refine zH ?_ _ | refine zI ?_ | refine zG ?_ _)); exact BK218.out⟩, ⟨by repeat (first | exact HB.out | apply zA | apply zB | apply zD | refine zJ ?_ GE218.out)⟩⟩
      ·rw [if_neg c6] at H
       exact absurd H (by simp)
     ·rw [if_neg c5] at H
      have c5b0 : (((rd_T68 l0_2 x4_1).f1) == 3) = false := z7 c5
      have c5b1 : (((rd_T68 l0_2 x4_1).f1) != 3) = true := bne_iff_ne.mpr c5
      have H' := z4 H
      clear H
      have hcz9_0 : wr.cell? ⟨gb218, 0, none⟩ = some (.string a0_0) := (zC BK218.out 0).trans rfl
      have hcz9_1 : wr.cell? ⟨gb218, 1, none⟩ = some (.slice A0_1 l0_1.length c0_1) := (zC BK218.out 1).trans rfl
      have hcz9_2 : wr.cell? ⟨gb218, 2, none⟩ = some (.slice A0_2 l0_2.length c0_2) := (zC BK218.out 2).trans rfl
      have hfz9_0 := zF BK218.out 0
      have hfz9_1 := zF BK218.out 1
      have hfz9_2 := zF BK218.out 2
      have p219 : 0 ≤ (x4_1 : Int) := of_decide_eq_true (by first | (with_reducible assumption) | assumption)
      have q219 : x4_1 < (l0_2.length : Int) := of_decide_eq_true (by first | (with_reducible assumption) | assumption)
      obtain ⟨ad219, e219, hx219_0, hx219_1, hx219_2⟩ := at_T68 HR0_2.out x4_1 p219 q219
      cases e219
      replace hx219_0 := (HB.out.cell (World.block_lt_of_cell? w _ hx219_0)).trans hx219_0
      replace hx219_1 := (HB.out.cell (World.block_lt_of_cell? w _ hx219_1)).trans hx219_1
      replace hx219_2 := (HB.out.cell (World.block_lt_of_cell? w _ hx219_2)).trans hx219_2
      replace p219 := eq_true p219
      replace q219 := eq_true q219
      go_wp2
      go_roundg k1
      case measure => have := HK1.out; omega
      case rel => exact ⟨(x3_1), (wrap64 (x4_1 + 1)), (by first | rfl | (simp; done) | (simp [*]; done)), H', ⟨by have := HK1.out; omega⟩, ⟨by (with_reducible repeat (first | apply zM | apply zN | apply zO)); exact HO_3.out⟩, ⟨by (with_reducible repeat (first | refine zH ?_ _ | refine zI ?_ | refine zG ?_ _)); exact BK218.out⟩, ⟨by repeat (first | exact HB.out | apply zA | apply zB | apply zD | refine zJ ?_ GE218.out)⟩⟩
    ·rw [if_neg c4] at H
     exact absurd H (by simp)
   ·rw [if_neg c3] at H
    have c3b0 : decide (x4_1 < (l0_2.length : Int)) = false := decide_eq_false c3
    clear c3
    obtain rfl := Option.some.inj H
    have hcz10_0 : wr.cell? ⟨gb218, 0, none⟩ = some (.string a0_0) := (zC BK218.out 0).trans rfl
    have hcz10_1 : wr.cell? ⟨gb218, 1, none⟩ = some (.slice A0_1 l0_1.length c0_1) := (zC BK218.out 1).trans rfl
    have hcz10_2 : wr.cell? ⟨gb218, 2, none⟩ = some (.slice A0_2 l0_2.length c0_2) := (zC BK218.out 2).trans rfl
    have hfz10_0 := zF BK218.out 0
    have hfz10_1 := zF BK218.out 1
    have hfz10_2 := zF BK218.out 2
    go_wp2
    go_ret
    exact ⟨_, by first | rfl | (simp [errW_none, errW_some] <;> rfl) | (simp [*, errW_none, errW_some] <;> rfl), by (with_reducible repeat (first | apply zM | apply zN | apply zO)); exact HO_3.out, by repeat (first | exact HB.out | apply zA | apply zB | apply zD | refine zJ ?_ GE218.out)⟩
def image_Threads.l0 : Nat → List ByteArray → List (S68) → Int → Int → Option (List ByteArray)
 | 0, _, _, _, _ => none
 | k + 1, x3, x7, x8, x9 => if x9 < x8 then (if 0 ≤ x9 then (if x9 < (x7.length : Int) then (if ((rd_T68 x7 x9).f1) = 3 then (if x3.length < 8796093022208 then (image_Threads.l0 k (x3 ++ [(rd_T68 x7 x9).f0]) x7 x8 (wrap64 (x9 + 1))) else (none)) else (image_Threads.l0 k x3 x7 x8 (wrap64 (x9 + 1)))) else (none)) else (none)) else (some x3)
def image_Threads.f (k : Nat) (a0_0 : ByteArray) (l0_1 : List Int) (l0_2 : List (S68)) : Option (List ByteArray) := image_Threads.l0 k ([] : List ByteArray) l0_2 (l0_2.length : Int) 0
set_option maxHeartbeats 8000000 in
set_option maxRecDepth 100000 in
theorem image_Threads.calls (k : Nat) (a0_0 : ByteArray) (A0_1 : Option Addr) (c0_1 : Nat) (l0_1 : List Int) (A0_2 : Option Addr) (c0_2 : Nat) (l0_2 : List (S68)) (r : List ByteArray) (w : World) (hr0_1 : Kd.C (Kd.int .i64) w A0_1 l0_1.length l0_1) (hc0_1 : l0_1.length ≤ c0_1) (hr0_2 : Kd.C k68 w A0_2 l0_2.length l0_2) (hc0_2 : l0_2.length ≤ c0_2) (h : image_Threads.f k a0_0 l0_1 l0_2 = some r) :
 Calls Tryd.prog 12 #[.agg #[.string a0_0, .slice A0_1 l0_1.length c0_1, .slice A0_2 l0_2.length c0_2]] w fun e w' => ∃ v0_ : Value, e = .returned (v0_) ∧ Kd.R Kd.string 9 w' w.heap.size (fun _ => True) v0_ r ∧ Below w.heap.size w w' := by
 have hu25 := Tryd.underlying25
 have hu68 := Tryd.underlying68
 have HR0_1 := z4 hr0_1
 have HC0_1 := z4 hc0_1
 clear hr0_1 hc0_1
 have HR0_2 := z4 hr0_2
 have HC0_2 := z4 hc0_2
 clear hr0_2 hc0_2
 have HB := z4 (Below.refl w.heap.size w)
 have H : (image_Threads.l0 k ([] : List ByteArray) l0_2 (l0_2.length : Int) 0) = some r := h
 clear h
 have H' := z4 H
 clear H
 go_enter Tryd.func12, Tryd.ntmps12
 go_wp2_with (first | ((with_reducible refine gate_dst (N := 1) rfl ?_); refine box_event ?hg (N := 1) ?hd (cs := #[.string a0_0, .slice A0_1 l0_1.length c0_1, .slice A0_2 l0_2.length c0_2]) (t := 25) ?hr ?_; (case hd => rfl); (case hg => rfl); (case hr => first | (go_simp; done) | (go_simp; rfl)); intro gb224 hg w2 hbox hb; have n0_ := z4 (zK (by repeat (first | exact HB.out | apply zA | apply zB | apply zD)) hb); have n1_ := z4 (hbox); have n2_ := z4 ((by rw [hg]; exact (zL (by repeat (first | exact HB.out | apply zA | apply zB | apply zD))) : w.heap.size ≤ gb224)); have n3_ := z4 ((by rw [hg]; exact (zL (by repeat (first | exact HB.out | apply zA | apply zB | apply zD))) : w.heap.size ≤ gb224)); clear HB; have HB := n0_; have BK224 := n1_; have GW224 := n2_; have GE224 := n3_; clear n0_ n1_ n2_ n3_; clear hb hbox hg; have hcz3_0 : w2.cell? ⟨gb224, 0, none⟩ = some (.string a0_0) := (zC BK224.out 0).trans rfl; have hcz3_1 : w2.cell? ⟨gb224, 1, none⟩ = some (.slice A0_1 l0_1.length c0_1) := (zC BK224.out 1).trans rfl; have hcz3_2 : w2.cell? ⟨gb224, 2, none⟩ = some (.slice A0_2 l0_2.length c0_2) := (zC BK224.out 2).trans rfl; have hfz3_0 := zF BK224.out 0; have hfz3_1 := zF BK224.out 1; have hfz3_2 := zF BK224.out 2))
 go_loopg [3, 9] k (fun kq v3 v9 w' => ∃ (x3_1 : List ByteArray) (x9_1 : Int), v9 = .int .i64 x9_1 ∧ Aside0 (image_Threads.l0 kq x3_1 l0_2 (l0_2.length : Int) x9_1 = some r) ∧ Aside0 (kq ≤ k) ∧ Aside0 (Kd.R Kd.string 9 w' w.heap.size (fun _ => True) v3 x3_1) ∧ Aside0 (w'.heap[gb224]? = some (.cells #[.string a0_0, (.slice A0_1 l0_1.length c0_1), (.slice A0_2 l0_2.length c0_2)] 25 (0, 0))) ∧ Aside0 (Below w.heap.size w w'))
 case atStart => exact ⟨(([] : List ByteArray)), (0), (by first | rfl | (simp; done) | (simp [*]; done)), H', ⟨Nat.le_refl _⟩, ⟨by first | exact Kd.R_nil _ _ _ _ _ | exact Kd.N_nil _ _ _ _ _ | exact Kd.V_nil _ _ _ _ _ | exact Kd.Q_nil _ _ _ _ _ | exact Kd.S_nil _ _ _ _ _⟩, ⟨by (with_reducible repeat (first | refine zH ?_ _ | refine zI ?_ | refine zG ?_ _)); exact BK224.out⟩, ⟨by repeat (first | exact HB.out | apply zA | apply zB | apply zD | refine zJ ?_ GE224.out)⟩⟩
 case round =>
  clear H'
  try clear c1
  try clear p2
  try clear hcz3_0
  try clear hcz3_1
  try clear hcz3_2
  try clear hfz3_0
  try clear hfz3_1
  try clear hfz3_2
  obtain ⟨x3_1, x9_1, rfl, HA, HK1, HO_3, BK224, HB⟩ := hrel
  cases gk with
  | zero => exact absurd HA.out (by simp [image_Threads.l0])
  | succ k1 =>
   have H := HA.out
   clear HA
   simp only [image_Threads.l0] at H
   by_cases c4 : x9_1 < (l0_2.length : Int)
   ·rw [if_pos c4] at H
    have c4b0 : decide (x9_1 < (l0_2.length : Int)) = true := decide_eq_true c4
    clear c4
    by_cases c5 : 0 ≤ x9_1
    ·rw [if_pos c5] at H
     have c5b0 : decide (0 ≤ x9_1) = true := decide_eq_true c5
     clear c5
     by_cases c6 : x9_1 < (l0_2.length : Int)
     ·rw [if_pos c6] at H
      have c6b0 : decide (x9_1 < (l0_2.length : Int)) = true := decide_eq_true c6
      clear c6
      by_cases c7 : ((rd_T68 l0_2 x9_1).f1) = 3
      ·rw [if_pos c7] at H
       have c7b0 : (((rd_T68 l0_2 x9_1).f1) == 3) = true := z5 c7
       have c7b1 : (((rd_T68 l0_2 x9_1).f1) != 3) = false := z6 c7
       clear c7
       by_cases c8 : x3_1.length < 8796093022208
       ·rw [if_pos c8] at H
        have LMc8 := z4 c8
        clear c8
        obtain ⟨y227, hy227⟩ : ∃ y_ : List ByteArray, y_ = (x3_1 ++ [(rd_T68 l0_2 x9_1).f0]) := ⟨_, rfl⟩
        replace H : (image_Threads.l0 k1 y227 l0_2 (l0_2.length : Int) (wrap64 (x9_1 + 1))) = some r := by first | (rw [hy227]; with_reducible exact H) | (have H2_ := (Option.bind_some _ _).symm.trans H; rw [hy227]; with_reducible exact H2_) | (have H2_ := (Option.bind_some _ _).symm.trans H; with_reducible exact H2_) | with_reducible exact H | (rw [hy227]; exact H) | exact H
        have Ny227 := z4 hy227
        clear hy227
        have H' := z4 H
        clear H
        have p225 : 0 ≤ (x9_1 : Int) := of_decide_eq_true (by first | (with_reducible assumption) | assumption)
        have q225 : x9_1 < (l0_2.length : Int) := of_decide_eq_true (by first | (with_reducible assumption) | assumption)
        obtain ⟨ad225, e225, hx225_0, hx225_1, hx225_2⟩ := at_T68 HR0_2.out x9_1 p225 q225
        cases e225
        replace hx225_0 := (HB.out.cell (World.block_lt_of_cell? w _ hx225_0)).trans hx225_0
        replace hx225_1 := (HB.out.cell (World.block_lt_of_cell? w _ hx225_1)).trans hx225_1
        replace hx225_2 := (HB.out.cell (World.block_lt_of_cell? w _ hx225_2)).trans hx225_2
        replace p225 := eq_true p225
        replace q225 := eq_true q225
        go_wp2_with (first | ((with_reducible refine gate_dst (N := 5) rfl ?_); refine box_event ?hg (N := 5) ?hd (cs := #[.string (⟨#[]⟩ : ByteArray), .int .i64 0, .int .i64 0]) (t := 68) ?hr ?_; (case hd => rfl); (case hg => rfl); (case hr => first | (go_simp; done) | (go_simp; rfl)); intro gb226 hg w9 hbox hb; have n0_ := z4 (zV (by (with_reducible repeat (first | apply zM | apply zN | apply zO)); exact HO_3.out) hb); have n1_ := z4 (blk_below (g := gb224) (o := .cells #[.string a0_0, .slice A0_1 l0_1.length c0_1, .slice (some ad225) l0_2.length c0_2] 25 (0, 0)) (by (with_reducible repeat (first | refine zH ?_ _ | refine zI ?_ | refine zG ?_ _)); exact BK224.out) hb); have n2_ := z4 (zK (by repeat (first | exact HB.out | apply zA | apply zB | apply zD | refine zJ ?_ GE224.out)) hb); have n3_ := z4 (hbox); have n4_ := z4 ((by rw [hg]; exact (zL (by repeat (first | exact HB.out | apply zA | apply zB | apply zD | refine zJ ?_ GE224.out))) : w.heap.size ≤ gb226)); have n5_ := z4 ((by rw [hg]; exact (zL (by repeat (first | exact HB.out | apply zA | apply zB | apply zD | refine zJ ?_ GE224.out))) : w.heap.size ≤ gb226)); have n6_ := z4 ((by rw [hg]; exact Nat.ne_of_lt (blk_lt (g := gb224) (o := .cells #[.string a0_0, .slice A0_1 l0_1.length c0_1, .slice (some ad225) l0_2.length c0_2] 25 (0, 0)) (by (with_reducible repeat (first | refine zH ?_ _ | refine zI ?_ | refine zG ?_ _)); exact BK224.out)) : gb224 ≠ gb226)); have n7_ := z4 ((by rw [hg]; exact Nat.ne_of_gt (blk_lt (g := gb224) (o := .cells #[.string a0_0, .slice A0_1 l0_1.length c0_1, .slice (some ad225) l0_2.length c0_2] 25 (0, 0)) (by (with_reducible repeat (first | refine zH ?_ _ | refine zI ?_ | refine zG ?_ _)); exact BK224.out)) : gb226 ≠ gb224)); clear HO_3; clear BK224; clear HB; have HO_3 := n0_; have BK224 := n1_; have HB := n2_; have BK226 := n3_; have GW226 := n4_; have GE226 := n5_; have NB224_226 := n6_; have NB226_224 := n7_; clear n0_ n1_ n2_ n3_ n4_ n5_ n6_ n7_; clear hb hbox hg; have hnb10 := NB226_224.out; have hnc10 := NB224_226.out; have hcz11_0 : w9.cell? ⟨gb226, 0, none⟩ = some (.string (⟨#[]⟩ : ByteArray)) := (zC BK226.out 0).trans rfl; have hcz11_1 : w9.cell? ⟨gb226, 1, none⟩ = some (.int .i64 0) := (zC BK226.out 1).trans rfl; have hcz11_2 : w9.cell? ⟨gb226, 2, none⟩ = some (.int .i64 0) := (zC BK226.out 2).trans rfl; have hfz11_0 := zF BK226.out 0; have hfz11_1 := zF BK226.out 1; have hfz11_2 := zF BK226.out 2) | ((with_reducible refine gate_builtin (b := .append) (xs := #[.tmp 16, .tmp 19]) rfl ?_); at_builtin; refine Kd.R_append Kd.string (w0 := w) w.heap.size rfl (.tmp 16) (.tmp 19) 32 9 (.string ⟨#[]⟩) 16 rfl Tryd.underlying32 info9 rfl (by decide) (by omega) u3 x3_1 ((rd_T68 l0_2 x9_1).f0) [.string ((rd_T68 l0_2 x9_1).f0)] (fun _ => True) (fun _ => False) rfl (by first | (go_simp; done) | (go_simp; rfl)) ?aP (fun _ hk => hk.elim) ?aF ?aO ?aB ?aS ?aL ?_; (case aP => exact rfl); (case aB => exact (by repeat (first | exact HB.out | apply zA | apply zB | apply zD | refine zJ ?_ GE224.out | refine zJ ?_ GE226.out))); (case aF => exact (fun _ _ => trivial)); (case aO => exact (by (with_reducible repeat (first | apply zM | apply zN | apply zO)); exact Kd.R_mono (Kd.R_far (p := ⟨gb226, 2, none⟩) (Kd.R_far (p := ⟨gb226, 1, none⟩) (Kd.R_far (p := ⟨gb226, 0, none⟩) (Kd.R_types HO_3.out BK226.out (by decide)) (fun _ hk => hk.2) (.string ((rd_T68 l0_2 x9_1).f0))) (fun _ hk => hk.2) (.int .i64 ((rd_T68 l0_2 x9_1).f1))) (fun _ hk => hk.2) (.int .i64 ((rd_T68 l0_2 x9_1).f2))) (fun _ hk => trivial))); (case aS => exact (zL (by repeat (first | exact HB.out | apply zA | apply zB | apply zD | refine zJ ?_ GE224.out | refine zJ ?_ GE226.out)))); (case aL => have := LMc8.out; omega); intro v228 w12 ho hb hg hat; rw [← Ny227.out] at ho; have n0_ := z4 (blk_grown (g := gb224) (o := .cells #[.string a0_0, .slice A0_1 l0_1.length c0_1, .slice (some ad225) l0_2.length c0_2] 25 (0, 0)) (by (with_reducible repeat (first | refine zH ?_ _ | refine zI ?_ | refine zG ?_ _)); refine blk_far ?_ NB224_226.out _; (with_reducible repeat (first | refine zH ?_ _ | refine zI ?_ | refine zG ?_ _)); refine blk_far ?_ NB224_226.out _; (with_reducible repeat (first | refine zH ?_ _ | refine zI ?_ | refine zG ?_ _)); refine blk_far ?_ NB224_226.out _; (with_reducible repeat (first | refine zH ?_ _ | refine zI ?_ | refine zG ?_ _)); exact BK224.out) hg (Kd.R_ne HO_3.out BK224.out (by decide))); have n1_ := z4 (blk_grown (g := gb226) (o := .cells #[.string ((rd_T68 l0_2 x9_1).f0), .int .i64 ((rd_T68 l0_2 x9_1).f1), .int .i64 ((rd_T68 l0_2 x9_1).f2)] 68 (0, 0)) (by (with_reducible repeat (first | refine zH ?_ _ | refine zI ?_ | refine zG ?_ _)); refine blk_put (cs := #[.string ((rd_T68 l0_2 x9_1).f0), .int .i64 ((rd_T68 l0_2 x9_1).f1), .int .i64 0]) ?_ 2 _ rfl; (with_reducible repeat (first | refine zH ?_ _ | refine zI ?_ | refine zG ?_ _)); refine blk_put (cs := #[.string ((rd_T68 l0_2 x9_1).f0), .int .i64 0, .int .i64 0]) ?_ 1 _ rfl; (with_reducible repeat (first | refine zH ?_ _ | refine zI ?_ | refine zG ?_ _)); refine blk_put (cs := #[.string (⟨#[]⟩ : ByteArray), .int .i64 0, .int .i64 0]) ?_ 0 _ rfl; (with_reducible repeat (first | refine zH ?_ _ | refine zI ?_ | refine zG ?_ _)); exact BK226.out) hg (Kd.R_ne HO_3.out BK226.out (by decide))); have n2_ := z4 (hb); have n3_ := z4 (ho); clear BK224; clear BK226; clear HB; clear HO_3; have BK224 := n0_; have BK226 := n1_; have HB := n2_; have HO229 := n3_; clear n0_ n1_ n2_ n3_; clear ho hb hg hat))
        go_roundg k1
        case measure => have := HK1.out; omega
        case rel => exact ⟨(y227), (wrap64 (x9_1 + 1)), (by first | rfl | (simp; done) | (simp [*]; done)), H', ⟨by have := HK1.out; omega⟩, ⟨by (with_reducible repeat (first | apply zM | apply zN | apply zO)); exact HO229.out⟩, ⟨by (with_reducible repeat (first | refine zH ?_ _ | refine zI ?_ | refine zG ?_ _)); exact BK224.out⟩, ⟨by repeat (first | exact HB.out | apply zA | apply zB | apply zD | refine zJ ?_ GE224.out | refine zJ ?_ GE226.out)⟩⟩
       ·rw [if_neg c8] at H
        exact absurd H (by simp)
      ·rw [if_neg c7] at H
       have c7b0 : (((rd_T68 l0_2 x9_1).f1) == 3) = false := z7 c7
       have c7b1 : (((rd_T68 l0_2 x9_1).f1) != 3) = true := bne_iff_ne.mpr c7
       have H' := z4 H
       clear H
       have p225 : 0 ≤ (x9_1 : Int) := of_decide_eq_true (by first | (with_reducible assumption) | assumption)
       have q225 : x9_1 < (l0_2.length : Int) := of_decide_eq_true (by first | (with_reducible assumption) | assumption)
       obtain ⟨ad225, e225, hx225_0, hx225_1, hx225_2⟩ := at_T68 HR0_2.out x9_1 p225 q225
       cases e225
       replace hx225_0 := (HB.out.cell (World.block_lt_of_cell? w _ hx225_0)).trans hx225_0
       replace hx225_1 := (HB.out.cell (World.block_lt_of_cell? w _ hx225_1)).trans hx225_1
       replace hx225_2 := (HB.out.cell (World.block_lt_of_cell? w _ hx225_2)).trans hx225_2
       replace p225 := eq_true p225
       replace q225 := eq_true q225
       go_wp2_with (first | ((with_reducible refine gate_dst (N := 5) rfl ?_); refine box_event ?hg (N := 5) ?hd (cs := #[.string (⟨#[]⟩ : ByteArray), .int .i64 0, .int .i64 0]) (t := 68) ?hr ?_; (case hd => rfl); (case hg => rfl); (case hr => first | (go_simp; done) | (go_simp; rfl)); intro gb226 hg w13 hbox hb; have n0_ := z4 (zV (by (with_reducible repeat (first | apply zM | apply zN | apply zO)); exact HO_3.out) hb); have n1_ := z4 (blk_below (g := gb224) (o := .cells #[.string a0_0, .slice A0_1 l0_1.length c0_1, .slice (some ad225) l0_2.length c0_2] 25 (0, 0)) (by (with_reducible repeat (first | refine zH ?_ _ | refine zI ?_ | refine zG ?_ _)); exact BK224.out) hb); have n2_ := z4 (zK (by repeat (first | exact HB.out | apply zA | apply zB | apply zD | refine zJ ?_ GE224.out)) hb); have n3_ := z4 (hbox); have n4_ := z4 ((by rw [hg]; exact (zL (by repeat (first | exact HB.out | apply zA | apply zB | apply zD | refine zJ ?_ GE224.out))) : w.heap.size ≤ gb226)); have n5_ := z4 ((by rw [hg]; exact (zL (by repeat (first | exact HB.out | apply zA | apply zB | apply zD | refine zJ ?_ GE224.out))) : w.heap.size ≤ gb226)); have n6_ := z4 ((by rw [hg]; exact Nat.ne_of_lt (blk_lt (g := gb224) (o := .cells #[.string a0_0, .slice A0_1 l0_1.length c0_1, .slice (some ad225) l0_2.length c0_2] 25 (0, 0)) (by (with_reducible repeat (first | refine zH ?_ _ | refine zI ?_ | refine zG ?_ _)); exact BK224.out)) : gb224 ≠ gb226)); have n7_ := z4 ((by rw [hg]; exact Nat.ne_of_gt (blk_lt (g := gb224) (o := .cells #[.string a0_0, .slice A0_1 l0_1.length c0_1, .slice (some ad225) l0_2.length c0_2] 25 (0, 0)) (by (with_reducible repeat (first | refine zH ?_ _ | refine zI ?_ | refine zG ?_ _)); exact BK224.out)) : gb226 ≠ gb224)); clear HO_3; clear BK224; clear HB; have HO_3 := n0_; have BK224 := n1_; have HB := n2_; have BK226 := n3_; have GW226 := n4_; have GE226 := n5_; have NB224_226 := n6_; have NB226_224 := n7_; clear n0_ n1_ n2_ n3_ n4_ n5_ n6_ n7_; clear hb hbox hg; have hnb14 := NB226_224.out; have hnc14 := NB224_226.out; have hcz15_0 : w13.cell? ⟨gb226, 0, none⟩ = some (.string (⟨#[]⟩ : ByteArray)) := (zC BK226.out 0).trans rfl; have hcz15_1 : w13.cell? ⟨gb226, 1, none⟩ = some (.int .i64 0) := (zC BK226.out 1).trans rfl; have hcz15_2 : w13.cell? ⟨gb226, 2, none⟩ = some (.int .i64 0) := (zC BK226.out 2).trans rfl; have hfz15_0 := zF BK226.out 0; have hfz15_1 := zF BK226.out 1; have hfz15_2 := zF BK226.out 2))
       go_roundg k1
       case measure => have := HK1.out; omega
       case rel => exact ⟨(x3_1), (wrap64 (x9_1 + 1)), (by first | rfl | (simp; done) | (simp [*]; done)), H', ⟨by have := HK1.out; omega⟩, ⟨by (with_reducible repeat (first | apply zM | apply zN | apply zO)); exact Kd.R_mono (Kd.R_far (p := ⟨gb226, 2, none⟩) (Kd.R_far (p := ⟨gb226, 1, none⟩) (Kd.R_far (p := ⟨gb226, 0, none⟩) (Kd.R_types HO_3.out BK226.out (by decide)) (fun _ hk => hk.2) (.string ((rd_T68 l0_2 x9_1).f0))) (fun _ hk => hk.2) (.int .i64 ((rd_T68 l0_2 x9_1).f1))) (fun _ hk => hk.2) (.int .i64 ((rd_T68 l0_2 x9_1).f2))) (fun _ hk => trivial)⟩, ⟨by (with_reducible repeat (first | refine zH ?_ _ | refine zI ?_ | refine zG ?_ _)); refine blk_far ?_ NB224_226.out _; (with_reducible repeat (first | refine zH ?_ _ | refine zI ?_ | refine zG ?_ _)); refine blk_far ?_ NB224_226.out _; (with_reducible repeat (first | refine zH ?_ _ | refine zI ?_ | refine zG ?_ _)); refine blk_far ?_ NB224_226.out _; (with_reducible repeat (first | refine zH ?_ _ | refine zI ?_ | refine zG ?_ _)); exact BK224.out⟩, ⟨by repeat (first | exact HB.out | apply zA | apply zB | apply zD | refine zJ ?_ GE224.out | refine zJ ?_ GE226.out)⟩⟩
     ·rw [if_neg c6] at H
      exact absurd H (by simp)
    ·rw [if_neg c5] at H
     exact absurd H (by simp)
   ·rw [if_neg c4] at H
    have c4b0 : decide (x9_1 < (l0_2.length : Int)) = false := decide_eq_false c4
    clear c4
    obtain rfl := Option.some.inj H
    go_wp2
    go_ret
    exact ⟨_, by first | rfl | (simp [errW_none, errW_some] <;> rfl) | (simp [*, errW_none, errW_some] <;> rfl), by (with_reducible repeat (first | apply zM | apply zN | apply zO)); exact HO_3.out, by repeat (first | exact HB.out | apply zA | apply zB | apply zD | refine zJ ?_ GE224.out)⟩
def image_jumps.f (a0 : Int) : Option (Bool) := if a0 = 20 then (some true) else (if a0 = 21 then (some true) else (if a0 = 22 then (some true) else (if a0 = 23 then (some true) else (if a0 = 25 then (some true) else (if a0 = 26 then (some true) else (if a0 = 27 then (some true) else (some false)))))))
set_option maxHeartbeats 8000000 in
set_option maxRecDepth 100000 in
theorem image_jumps.calls (a0 : Int) (r : Bool) (w : World) (h : image_jumps.f a0 = some r) :
 Calls Tryd.prog 54 #[.int .i64 a0] w fun e w' => e = .returned (.bool r) ∧ Drawn0 w w' := by
 have H : (if a0 = 20 then (some true) else (if a0 = 21 then (some true) else (if a0 = 22 then (some true) else (if a0 = 23 then (some true) else (if a0 = 25 then (some true) else (if a0 = 26 then (some true) else (if a0 = 27 then (some true) else (some false)))))))) = some r := h
 clear h
 by_cases c2 : a0 = 20
 ·rw [if_pos c2] at H
  have c2b0 : (a0 == 20) = true := z5 c2
  have c2b1 : (a0 != 20) = false := z6 c2
  clear c2
  obtain rfl := Option.some.inj H
  go_enter Tryd.func54, Tryd.ntmps54
  go_wp2
  go_ret
  exact ⟨by first | rfl | (simp; done) | (simp [*]; done), by repeat (first | exact Drawn0.refl _ | apply Drawn0.step)⟩
 ·rw [if_neg c2] at H
  have c2b0 : (a0 == 20) = false := z7 c2
  have c2b1 : (a0 != 20) = true := bne_iff_ne.mpr c2
  by_cases c3 : a0 = 21
  ·rw [if_pos c3] at H
   have c3b0 : (a0 == 21) = true := z5 c3
   have c3b1 : (a0 != 21) = false := z6 c3
   clear c3
   obtain rfl := Option.some.inj H
   go_enter Tryd.func54, Tryd.ntmps54
   go_wp2
   go_ret
   exact ⟨by first | rfl | (simp; done) | (simp [*]; done), by repeat (first | exact Drawn0.refl _ | apply Drawn0.step)⟩
  ·rw [if_neg c3] at H
   have c3b0 : (a0 == 21) = false := z7 c3
   have c3b1 : (a0 != 21) = true := bne_iff_ne.mpr c3
   by_cases c4 : a0 = 22
   ·rw [if_pos c4] at H
    have c4b0 : (a0 == 22) = true := z5 c4
    have c4b1 : (a0 != 22) = false := z6 c4
    clear c4
    obtain rfl := Option.some.inj H
    go_enter Tryd.func54, Tryd.ntmps54
    go_wp2
    go_ret
    exact ⟨by first | rfl | (simp; done) | (simp [*]; done), by repeat (first | exact Drawn0.refl _ | apply Drawn0.step)⟩
   ·rw [if_neg c4] at H
    have c4b0 : (a0 == 22) = false := z7 c4
    have c4b1 : (a0 != 22) = true := bne_iff_ne.mpr c4
    by_cases c5 : a0 = 23
    ·rw [if_pos c5] at H
     have c5b0 : (a0 == 23) = true := z5 c5
     have c5b1 : (a0 != 23) = false := z6 c5
     clear c5
     obtain rfl := Option.some.inj H
     go_enter Tryd.func54, Tryd.ntmps54
     go_wp2
     go_ret
     exact ⟨by first | rfl | (simp; done) | (simp [*]; done), by repeat (first | exact Drawn0.refl _ | apply Drawn0.step)⟩
    ·rw [if_neg c5] at H
     have c5b0 : (a0 == 23) = false := z7 c5
     have c5b1 : (a0 != 23) = true := bne_iff_ne.mpr c5
     by_cases c6 : a0 = 25
     ·rw [if_pos c6] at H
      have c6b0 : (a0 == 25) = true := z5 c6
      have c6b1 : (a0 != 25) = false := z6 c6
      clear c6
      obtain rfl := Option.some.inj H
      go_enter Tryd.func54, Tryd.ntmps54
      go_wp2
      go_ret
      exact ⟨by first | rfl | (simp; done) | (simp [*]; done), by repeat (first | exact Drawn0.refl _ | apply Drawn0.step)⟩
     ·rw [if_neg c6] at H
      have c6b0 : (a0 == 25) = false := z7 c6
      have c6b1 : (a0 != 25) = true := bne_iff_ne.mpr c6
      by_cases c7 : a0 = 26
      ·rw [if_pos c7] at H
       have c7b0 : (a0 == 26) = true := z5 c7
       have c7b1 : (a0 != 26) = false := z6 c7
       clear c7
       obtain rfl := Option.some.inj H
       go_enter Tryd.func54, Tryd.ntmps54
       go_wp2
       go_ret
       exact ⟨by first | rfl | (simp; done) | (simp [*]; done), by repeat (first | exact Drawn0.refl _ | apply Drawn0.step)⟩
      ·rw [if_neg c7] at H
       have c7b0 : (a0 == 26) = false := z7 c7
       have c7b1 : (a0 != 26) = true := bne_iff_ne.mpr c7
       by_cases c8 : a0 = 27
       ·rw [if_pos c8] at H
        have c8b0 : (a0 == 27) = true := z5 c8
        have c8b1 : (a0 != 27) = false := z6 c8
        clear c8
        obtain rfl := Option.some.inj H
        go_enter Tryd.func54, Tryd.ntmps54
        go_wp2
        go_ret
        exact ⟨by first | rfl | (simp; done) | (simp [*]; done), by repeat (first | exact Drawn0.refl _ | apply Drawn0.step)⟩
       ·rw [if_neg c8] at H
        have c8b0 : (a0 == 27) = false := z7 c8
        have c8b1 : (a0 != 27) = true := bne_iff_ne.mpr c8
        obtain rfl := Option.some.inj H
        go_enter Tryd.func54, Tryd.ntmps54
        go_wp2
        go_ret
        exact ⟨by first | rfl | (simp; done) | (simp [*]; done), by repeat (first | exact Drawn0.refl _ | apply Drawn0.step)⟩
end Go.Proofs.YtimhcpmfhebbhaaDoor.M
