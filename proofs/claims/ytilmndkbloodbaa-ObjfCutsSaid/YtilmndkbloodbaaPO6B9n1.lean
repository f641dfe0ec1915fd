/-
  Texts of the proofs of ObjfCuts, cut to what the proofs reach and packed by a program of this session (wip/packs.py). Each part begins with what it says; conditions: those told there.
-/
import Derived.Test.YtilmndkbloodbaaPO6B5n1
/-
  Layer 6: the contracts over objects, case by case, for the laws' walks; and the plain facts of forms (their size, that unlike objects have unlike ones, that a beginning of one is none's). No condition but those told at each.
-/
namespace Go.Proofs.Ytilmndkbloodbaa.M
open Go.RowKit Go.Proofs.YtilmndkbloodbaaW.PrintWords Go.Proofs.Ytilmndkbloodbaa.Num Go.Proofs.Ytilmndkbloodbaa.Seven Go.Proofs.Ytilmndkbloodbaa.Word1 Go.Proofs.Ytilmndkbloodbaa.Obj
set_option linter.unusedVariables false
set_option linter.unusedSimpArgs false
/-! ### Plain -/
theorem size_empty {a : ByteArray} (h : a.size = 0) : a = ⟨#[]⟩ := bytesOf_inj (List.eq_nil_of_length_eq_zero (by rw [bytesOf_length]; exact h))
theorem rd_more {o : Obj6} (hm : mayO o = true) (hw : wordsOk o.2.1) {x : ByteArray} (hx : x.size ≠ 0) : rdO (formO o ++ x) = (emptyO, 9) := by
  have h := rd_form hm hw x
  rw [if_neg hx] at h
  exact h
/-- A beginning of a form, but not all of it, is none's. -/
theorem rd_cut {o : Obj6} (hm : mayO o = true) (hw : wordsOk o.2.1) {a b : ByteArray} (h : formO o = a ++ b) (hb : b.size ≠ 0) : rdO a = (emptyO, 9) := by
  rcases rd_two a with ha | ha
  · obtain ⟨h1, h2, h3⟩ := rd_back ha
    have h4 := rd_more h2 h3 hb
    rw [h1, ← h, rd_formO hm hw] at h4
    have := (Prod.mk.inj h4).2
    omega
  · exact rd_none ha
theorem extract_split (s : ByteArray) (k : Nat) (hk : k ≤ s.size) : s = s.extract 0 k ++ s.extract k s.size := by
  apply bytesOf_inj
  rw [bytesOf_append]
  unfold bytesOf
  simp only [ByteArray.data_extract, Array.toList_extract]
  rw [← List.map_append]
  congr 1
  have hs : s.data.toList.length = s.size := rfl
  simp only [List.extract, Nat.sub_zero, List.drop_zero]
  rw [List.take_of_length_le (l := List.drop k s.data.toList) (by rw [List.length_drop]; omega), List.take_append_drop]
theorem rd_cutAt {o : Obj6} (hm : mayO o = true) (hw : wordsOk o.2.1) {k : Nat} (hk : k < (formO o).size) : rdO ((formO o).extract 0 k) = (emptyO, 9) := by
  refine rd_cut hm hw (extract_split (formO o) k (by omega)) ?_
  rw [ByteArray.size_extract]
  omega
/-! ### Case by case -/
end Go.Proofs.Ytilmndkbloodbaa.M

/-
  Layer 6: ObjfCuts: the walk. Conditions: the words of data are of 64 bits; the texts are of at most 2^47 bytes.
-/
namespace Go.Proofs.Ytilmndkbloodbaa.M
open Go.RowKit Go.Proofs.YtilmndkbloodbaaW.PrintWords Go.Proofs.Ytilmndkbloodbaa.Num Go.Proofs.Ytilmndkbloodbaa.Seven Go.Proofs.Ytilmndkbloodbaa.Word1 Go.Proofs.Ytilmndkbloodbaa.Obj
set_option linter.unusedVariables false
set_option linter.unusedSimpArgs false
set_option maxHeartbeats 4000000 in
set_option maxRecDepth 100000 in
theorem cuts1 {w : World} {v : Value} {o : Obj6} {at_ : Int} {more : ByteArray} (ha : Ob w v o) (hw : wordsOk o.2.1) (hx : more.size ≤ 140737488355328) (hsm : decide (o.2.2.1.length ≤ 200) = false) : Calls Try.prog 6 #[v, .int .i64 at_, .string more] w fun e w' => e = .returned (.bool true) ∧ Below w.heap.size w w' := by
  obtain ⟨Aa1, ca1, Aa2, ca2, Aa3, ca3, rfl, ha0⟩ := ha.parts
  have Ha := Aside0.mk ha0
  clear ha ha0
  have HSM := Aside0.mk hsm
  clear hsm
  have T1 : True := trivial
  have T2 : True := trivial
  go_enter Try.func6, Try.ntmps6
  go_wp2_with (first
    | (clear T1; go_at_call 8; (with_reducible refine (small_c (Ob.more Ha.out _) false HSM.out).mono ?_); rintro e w1 ⟨rfl, hb⟩
       have HB1 := Aside0.mk (below_in (below_alloc (Below.refl w.heap.size w) _) hb)
       have HOa1 := Aside0.mk (Ob.below (Ob.more Ha.out _) hb)
       have BKa1 : Aside0 (w1.heap[w.heap.size]? = some (.cells #[(.string o.1), (.slice Aa1 o.2.1.length ca1), (.slice Aa2 o.2.2.1.length ca2), (.slice Aa3 o.2.2.2.length ca3)] 26 (0, 0))) := Aside0.mk (blk_below (blk_new w _) hb)
       have ka1_0 : w1.cell? ⟨w.heap.size, 0, none⟩ = some (.string o.1) := (blk_cell BKa1.out 0).trans rfl
       have ka1_1 : w1.cell? ⟨w.heap.size, 1, none⟩ = some (.slice Aa1 o.2.1.length ca1) := (blk_cell BKa1.out 1).trans rfl
       have ka1_2 : w1.cell? ⟨w.heap.size, 2, none⟩ = some (.slice Aa2 o.2.2.1.length ca2) := (blk_cell BKa1.out 2).trans rfl
       have ka1_3 : w1.cell? ⟨w.heap.size, 3, none⟩ = some (.slice Aa3 o.2.2.2.length ca3) := (blk_cell BKa1.out 3).trans rfl
       have lta1 := blk_lt BKa1.out
       clear hb)
    | (clear T2; go_at_call 9; (with_reducible refine (live_c _).mono ?_); rintro e w2 ⟨rfl, hb⟩
       have HB2 := Aside0.mk (below_in HB1.out hb)
       have HOa2 := Aside0.mk (Ob.below HOa1.out hb)
       have BKa2 : Aside0 (w2.heap[w.heap.size]? = some (.cells #[(.string o.1), (.slice Aa1 o.2.1.length ca1), (.slice Aa2 o.2.2.1.length ca2), (.slice Aa3 o.2.2.2.length ca3)] 26 (0, 0))) := Aside0.mk (blk_below BKa1.out hb)
       have ka2_0 : w2.cell? ⟨w.heap.size, 0, none⟩ = some (.string o.1) := (blk_cell BKa2.out 0).trans rfl
       have ka2_1 : w2.cell? ⟨w.heap.size, 1, none⟩ = some (.slice Aa1 o.2.1.length ca1) := (blk_cell BKa2.out 1).trans rfl
       have ka2_2 : w2.cell? ⟨w.heap.size, 2, none⟩ = some (.slice Aa2 o.2.2.1.length ca2) := (blk_cell BKa2.out 2).trans rfl
       have ka2_3 : w2.cell? ⟨w.heap.size, 3, none⟩ = some (.slice Aa3 o.2.2.2.length ca3) := (blk_cell BKa2.out 3).trans rfl
       have lta2 := blk_lt BKa2.out
       clear hb HB1 HOa1 ka1_0 ka1_1 ka1_2 ka1_3 lta1 BKa1))
  go_ret
  exact ⟨rfl, HB2.out⟩
set_option maxHeartbeats 4000000 in
set_option maxRecDepth 100000 in
theorem cuts2 {w : World} {v : Value} {o : Obj6} {at_ : Int} {more : ByteArray} (ha : Ob w v o) (hw : wordsOk o.2.1) (hx : more.size ≤ 140737488355328) (hsm : decide (o.2.2.1.length ≤ 200) = true) (hm : mayO o = false) : Calls Try.prog 6 #[v, .int .i64 at_, .string more] w fun e w' => e = .returned (.bool true) ∧ Below w.heap.size w w' := by
  obtain ⟨Aa1, ca1, Aa2, ca2, Aa3, ca3, rfl, ha0⟩ := ha.parts
  have Ha := Aside0.mk ha0
  clear ha ha0
  have HSM := Aside0.mk hsm
  have HW := Aside0.mk hw
  have HM := Aside0.mk hm
  clear hsm hw hm
  have T1 : True := trivial
  have T2 : True := trivial
  have T3 : True := trivial
  go_enter Try.func6, Try.ntmps6
  go_wp2_with (first
    | (clear T1; go_at_call 8; (with_reducible refine (small_c (Ob.more Ha.out _) true HSM.out).mono ?_); rintro e w1 ⟨rfl, hb⟩
       have HB1 := Aside0.mk (below_in (below_alloc (Below.refl w.heap.size w) _) hb)
       have HOa1 := Aside0.mk (Ob.below (Ob.more Ha.out _) hb)
       have BKa1 : Aside0 (w1.heap[w.heap.size]? = some (.cells #[(.string o.1), (.slice Aa1 o.2.1.length ca1), (.slice Aa2 o.2.2.1.length ca2), (.slice Aa3 o.2.2.2.length ca3)] 26 (0, 0))) := Aside0.mk (blk_below (blk_new w _) hb)
       have ka1_0 : w1.cell? ⟨w.heap.size, 0, none⟩ = some (.string o.1) := (blk_cell BKa1.out 0).trans rfl
       have ka1_1 : w1.cell? ⟨w.heap.size, 1, none⟩ = some (.slice Aa1 o.2.1.length ca1) := (blk_cell BKa1.out 1).trans rfl
       have ka1_2 : w1.cell? ⟨w.heap.size, 2, none⟩ = some (.slice Aa2 o.2.2.1.length ca2) := (blk_cell BKa1.out 2).trans rfl
       have ka1_3 : w1.cell? ⟨w.heap.size, 3, none⟩ = some (.slice Aa3 o.2.2.2.length ca3) := (blk_cell BKa1.out 3).trans rfl
       have lta1 := blk_lt BKa1.out
       clear hb)
    | (clear T2; go_at_call 11; (with_reducible refine (write_no HOa1.out HW.out HM.out).mono ?_); rintro e w2 ⟨rfl, hb⟩
       have HB2 := Aside0.mk (below_in HB1.out hb)
       have HOa2 := Aside0.mk (Ob.below HOa1.out hb)
       have BKa2 : Aside0 (w2.heap[w.heap.size]? = some (.cells #[(.string o.1), (.slice Aa1 o.2.1.length ca1), (.slice Aa2 o.2.2.1.length ca2), (.slice Aa3 o.2.2.2.length ca3)] 26 (0, 0))) := Aside0.mk (blk_below BKa1.out hb)
       have ka2_0 : w2.cell? ⟨w.heap.size, 0, none⟩ = some (.string o.1) := (blk_cell BKa2.out 0).trans rfl
       have ka2_1 : w2.cell? ⟨w.heap.size, 1, none⟩ = some (.slice Aa1 o.2.1.length ca1) := (blk_cell BKa2.out 1).trans rfl
       have ka2_2 : w2.cell? ⟨w.heap.size, 2, none⟩ = some (.slice Aa2 o.2.2.1.length ca2) := (blk_cell BKa2.out 2).trans rfl
       have ka2_3 : w2.cell? ⟨w.heap.size, 3, none⟩ = some (.slice Aa3 o.2.2.2.length ca3) := (blk_cell BKa2.out 3).trans rfl
       have lta2 := blk_lt BKa2.out
       clear hb HB1 HOa1 ka1_0 ka1_1 ka1_2 ka1_3 lta1 BKa1)
    | (clear T3; go_at_call 9; (with_reducible refine (live_c _).mono ?_); rintro e w3 ⟨rfl, hb⟩
       have HB3 := Aside0.mk (below_in HB2.out hb)
       have HOa3 := Aside0.mk (Ob.below HOa2.out hb)
       have BKa3 : Aside0 (w3.heap[w.heap.size]? = some (.cells #[(.string o.1), (.slice Aa1 o.2.1.length ca1), (.slice Aa2 o.2.2.1.length ca2), (.slice Aa3 o.2.2.2.length ca3)] 26 (0, 0))) := Aside0.mk (blk_below BKa2.out hb)
       have ka3_0 : w3.cell? ⟨w.heap.size, 0, none⟩ = some (.string o.1) := (blk_cell BKa3.out 0).trans rfl
       have ka3_1 : w3.cell? ⟨w.heap.size, 1, none⟩ = some (.slice Aa1 o.2.1.length ca1) := (blk_cell BKa3.out 1).trans rfl
       have ka3_2 : w3.cell? ⟨w.heap.size, 2, none⟩ = some (.slice Aa2 o.2.2.1.length ca2) := (blk_cell BKa3.out 2).trans rfl
       have ka3_3 : w3.cell? ⟨w.heap.size, 3, none⟩ = some (.slice Aa3 o.2.2.2.length ca3) := (blk_cell BKa3.out 3).trans rfl
       have lta3 := blk_lt BKa3.out
       clear hb HB2 HOa2 ka2_0 ka2_1 ka2_2 ka2_3 lta2 BKa2))
  go_ret
  exact ⟨rfl, HB3.out⟩
set_option maxHeartbeats 4000000 in
set_option maxRecDepth 100000 in
theorem cuts3 {w : World} {v : Value} {o : Obj6} {at_ : Int} {more : ByteArray} (ha : Ob w v o) (hw : wordsOk o.2.1) (hx : more.size ≤ 140737488355328) (hsm : decide (o.2.2.1.length ≤ 200) = true) (hm : mayO o = true) (hn : ¬ at_ < 0) (hz : ¬ (formO o).size = 0) (ht0 : 0 ≤ (at_ % ((formO o).size : Int))) (ht1 : (at_ % ((formO o).size : Int)) < ((formO o).size : Int)) (hne : ¬ more.toList = []) (hn0 : ¬ more.size = 0) : Calls Try.prog 6 #[v, .int .i64 at_, .string more] w fun e w' => e = .returned (.bool true) ∧ Below w.heap.size w w' := by
  obtain ⟨Aa1, ca1, Aa2, ca2, Aa3, ca3, rfl, ha0⟩ := ha.parts
  have Ha := Aside0.mk ha0
  clear ha ha0
  have cut := rd_cutAt hm hw (k := ((at_ % ((formO o).size : Int))).toNat) (by omega)
  have fs := form_small hm
  have mor := rd_more hm hw hn0
  have hz2 : ¬ ((formO o).size : Int) = 0 := by omega
  have ht2 : (at_ % ((formO o).size : Int)) ≤ ((formO o).size : Int) := by omega
  have hsum : ¬ 9223372036854775807 < (formO o).size + more.size := by omega
  have HSM := Aside0.mk hsm
  have HW := Aside0.mk hw
  have HM := Aside0.mk hm
  have CUT := Aside0.mk cut
  have MOR := Aside0.mk mor
  have FS := Aside0.mk fs
  have HX := Aside0.mk hx
  clear hsm hw hm cut mor fs hx
  have T1 : True := trivial
  have T2 : True := trivial
  have T3 : True := trivial
  have T4 : True := trivial
  have T5 : True := trivial
  go_enter Try.func6, Try.ntmps6
  go_wp2_with (first
    | (clear T1; go_at_call 8; (with_reducible refine (small_c (Ob.more Ha.out _) true HSM.out).mono ?_); rintro e w1 ⟨rfl, hb⟩
       have HB1 := Aside0.mk (below_in (below_alloc (Below.refl w.heap.size w) _) hb)
       have HOa1 := Aside0.mk (Ob.below (Ob.more Ha.out _) hb)
       have BKa1 : Aside0 (w1.heap[w.heap.size]? = some (.cells #[(.string o.1), (.slice Aa1 o.2.1.length ca1), (.slice Aa2 o.2.2.1.length ca2), (.slice Aa3 o.2.2.2.length ca3)] 26 (0, 0))) := Aside0.mk (blk_below (blk_new w _) hb)
       have ka1_0 : w1.cell? ⟨w.heap.size, 0, none⟩ = some (.string o.1) := (blk_cell BKa1.out 0).trans rfl
       have ka1_1 : w1.cell? ⟨w.heap.size, 1, none⟩ = some (.slice Aa1 o.2.1.length ca1) := (blk_cell BKa1.out 1).trans rfl
       have ka1_2 : w1.cell? ⟨w.heap.size, 2, none⟩ = some (.slice Aa2 o.2.2.1.length ca2) := (blk_cell BKa1.out 2).trans rfl
       have ka1_3 : w1.cell? ⟨w.heap.size, 3, none⟩ = some (.slice Aa3 o.2.2.2.length ca3) := (blk_cell BKa1.out 3).trans rfl
       have lta1 := blk_lt BKa1.out
       clear hb)
    | (clear T2; go_at_call 11; (with_reducible refine (write_yes HOa1.out HW.out HM.out).mono ?_); rintro e w2 ⟨rfl, hb⟩
       have HB2 := Aside0.mk (below_in HB1.out hb)
       have HOa2 := Aside0.mk (Ob.below HOa1.out hb)
       have BKa2 : Aside0 (w2.heap[w.heap.size]? = some (.cells #[(.string o.1), (.slice Aa1 o.2.1.length ca1), (.slice Aa2 o.2.2.1.length ca2), (.slice Aa3 o.2.2.2.length ca3)] 26 (0, 0))) := Aside0.mk (blk_below BKa1.out hb)
       have ka2_0 : w2.cell? ⟨w.heap.size, 0, none⟩ = some (.string o.1) := (blk_cell BKa2.out 0).trans rfl
       have ka2_1 : w2.cell? ⟨w.heap.size, 1, none⟩ = some (.slice Aa1 o.2.1.length ca1) := (blk_cell BKa2.out 1).trans rfl
       have ka2_2 : w2.cell? ⟨w.heap.size, 2, none⟩ = some (.slice Aa2 o.2.2.1.length ca2) := (blk_cell BKa2.out 2).trans rfl
       have ka2_3 : w2.cell? ⟨w.heap.size, 3, none⟩ = some (.slice Aa3 o.2.2.2.length ca3) := (blk_cell BKa2.out 3).trans rfl
       have lta2 := blk_lt BKa2.out
       clear hb HB1 HOa1 ka1_0 ka1_1 ka1_2 ka1_3 lta1 BKa1)
    | (clear T3; go_at_call 16; (with_reducible refine (read_no (by rw [ByteArray.size_extract]; have := FS.out; omega) CUT.out _).mono ?_); rintro e w3 ⟨v3, rfl, ho, hb⟩
       obtain ⟨Ap1, cp1, Ap2, cp2, Ap3, cp3, rfl, ho2⟩ := ho.parts
       have HN3 := Aside0.mk ho2
       clear ho ho2
       have HB3 := Aside0.mk (below_in HB2.out hb)
       have HOa3 := Aside0.mk (Ob.below HOa2.out hb)
       have BKa3 : Aside0 (w3.heap[w.heap.size]? = some (.cells #[(.string o.1), (.slice Aa1 o.2.1.length ca1), (.slice Aa2 o.2.2.1.length ca2), (.slice Aa3 o.2.2.2.length ca3)] 26 (0, 0))) := Aside0.mk (blk_below BKa2.out hb)
       have ka3_0 : w3.cell? ⟨w.heap.size, 0, none⟩ = some (.string o.1) := (blk_cell BKa3.out 0).trans rfl
       have ka3_1 : w3.cell? ⟨w.heap.size, 1, none⟩ = some (.slice Aa1 o.2.1.length ca1) := (blk_cell BKa3.out 1).trans rfl
       have ka3_2 : w3.cell? ⟨w.heap.size, 2, none⟩ = some (.slice Aa2 o.2.2.1.length ca2) := (blk_cell BKa3.out 2).trans rfl
       have ka3_3 : w3.cell? ⟨w.heap.size, 3, none⟩ = some (.slice Aa3 o.2.2.2.length ca3) := (blk_cell BKa3.out 3).trans rfl
       have lta3 := blk_lt BKa3.out
       clear hb HB2 HOa2 ka2_0 ka2_1 ka2_2 ka2_3 lta2 BKa2)
    | (clear T4; go_at_call 16; (with_reducible refine (read_no (by rw [ByteArray.size_append]; have := FS.out; have := HX.out; omega) MOR.out _).mono ?_); rintro e w4 ⟨v4, rfl, ho, hb⟩
       obtain ⟨Aq1, cq1, Aq2, cq2, Aq3, cq3, rfl, ho2⟩ := ho.parts
       have HN4 := Aside0.mk ho2
       clear ho ho2
       have HB4 := Aside0.mk (below_in (below_alloc HB3.out _) hb)
       have HOa4 := Aside0.mk (Ob.below (Ob.more HOa3.out _) hb)
       have HOp4 := Aside0.mk (Ob.below (Ob.more HN3.out _) hb)
       have BKa4 : Aside0 (w4.heap[w.heap.size]? = some (.cells #[(.string o.1), (.slice Aa1 o.2.1.length ca1), (.slice Aa2 o.2.2.1.length ca2), (.slice Aa3 o.2.2.2.length ca3)] 26 (0, 0))) := Aside0.mk (blk_below (blk_alloc BKa3.out _) hb)
       have ka4_0 : w4.cell? ⟨w.heap.size, 0, none⟩ = some (.string o.1) := (blk_cell BKa4.out 0).trans rfl
       have ka4_1 : w4.cell? ⟨w.heap.size, 1, none⟩ = some (.slice Aa1 o.2.1.length ca1) := (blk_cell BKa4.out 1).trans rfl
       have ka4_2 : w4.cell? ⟨w.heap.size, 2, none⟩ = some (.slice Aa2 o.2.2.1.length ca2) := (blk_cell BKa4.out 2).trans rfl
       have ka4_3 : w4.cell? ⟨w.heap.size, 3, none⟩ = some (.slice Aa3 o.2.2.2.length ca3) := (blk_cell BKa4.out 3).trans rfl
       have lta4 := blk_lt BKa4.out
       have BKp4 : Aside0 (w4.heap[w3.heap.size]? = some (.cells #[(.string emptyO.1), (.slice Ap1 emptyO.2.1.length cp1), (.slice Ap2 emptyO.2.2.1.length cp2), (.slice Ap3 emptyO.2.2.2.length cp3)] 26 (0, 0))) := Aside0.mk (blk_below (blk_new w3 _) hb)
       have kp4_0 : w4.cell? ⟨w3.heap.size, 0, none⟩ = some (.string emptyO.1) := (blk_cell BKp4.out 0).trans rfl
       have kp4_1 : w4.cell? ⟨w3.heap.size, 1, none⟩ = some (.slice Ap1 emptyO.2.1.length cp1) := (blk_cell BKp4.out 1).trans rfl
       have kp4_2 : w4.cell? ⟨w3.heap.size, 2, none⟩ = some (.slice Ap2 emptyO.2.2.1.length cp2) := (blk_cell BKp4.out 2).trans rfl
       have kp4_3 : w4.cell? ⟨w3.heap.size, 3, none⟩ = some (.slice Ap3 emptyO.2.2.2.length cp3) := (blk_cell BKp4.out 3).trans rfl
       have ltp4 := blk_lt BKp4.out
       clear hb HB3 HOa3 ka3_0 ka3_1 ka3_2 ka3_3 lta3 BKa3 HN3)
    | (clear T5; go_at_call 9; (with_reducible refine (live_c _).mono ?_); rintro e w5 ⟨rfl, hb⟩
       have HB5 := Aside0.mk (below_in (below_alloc HB4.out _) hb)
       have HOa5 := Aside0.mk (Ob.below (Ob.more HOa4.out _) hb)
       have HOp5 := Aside0.mk (Ob.below (Ob.more HOp4.out _) hb)
       have HOq5 := Aside0.mk (Ob.below (Ob.more HN4.out _) hb)
       have BKa5 : Aside0 (w5.heap[w.heap.size]? = some (.cells #[(.string o.1), (.slice Aa1 o.2.1.length ca1), (.slice Aa2 o.2.2.1.length ca2), (.slice Aa3 o.2.2.2.length ca3)] 26 (0, 0))) := Aside0.mk (blk_below (blk_alloc BKa4.out _) hb)
       have ka5_0 : w5.cell? ⟨w.heap.size, 0, none⟩ = some (.string o.1) := (blk_cell BKa5.out 0).trans rfl
       have ka5_1 : w5.cell? ⟨w.heap.size, 1, none⟩ = some (.slice Aa1 o.2.1.length ca1) := (blk_cell BKa5.out 1).trans rfl
       have ka5_2 : w5.cell? ⟨w.heap.size, 2, none⟩ = some (.slice Aa2 o.2.2.1.length ca2) := (blk_cell BKa5.out 2).trans rfl
       have ka5_3 : w5.cell? ⟨w.heap.size, 3, none⟩ = some (.slice Aa3 o.2.2.2.length ca3) := (blk_cell BKa5.out 3).trans rfl
       have lta5 := blk_lt BKa5.out
       have BKp5 : Aside0 (w5.heap[w3.heap.size]? = some (.cells #[(.string emptyO.1), (.slice Ap1 emptyO.2.1.length cp1), (.slice Ap2 emptyO.2.2.1.length cp2), (.slice Ap3 emptyO.2.2.2.length cp3)] 26 (0, 0))) := Aside0.mk (blk_below (blk_alloc BKp4.out _) hb)
       have kp5_0 : w5.cell? ⟨w3.heap.size, 0, none⟩ = some (.string emptyO.1) := (blk_cell BKp5.out 0).trans rfl
       have kp5_1 : w5.cell? ⟨w3.heap.size, 1, none⟩ = some (.slice Ap1 emptyO.2.1.length cp1) := (blk_cell BKp5.out 1).trans rfl
       have kp5_2 : w5.cell? ⟨w3.heap.size, 2, none⟩ = some (.slice Ap2 emptyO.2.2.1.length cp2) := (blk_cell BKp5.out 2).trans rfl
       have kp5_3 : w5.cell? ⟨w3.heap.size, 3, none⟩ = some (.slice Ap3 emptyO.2.2.2.length cp3) := (blk_cell BKp5.out 3).trans rfl
       have ltp5 := blk_lt BKp5.out
       have BKq5 : Aside0 (w5.heap[w4.heap.size]? = some (.cells #[(.string emptyO.1), (.slice Aq1 emptyO.2.1.length cq1), (.slice Aq2 emptyO.2.2.1.length cq2), (.slice Aq3 emptyO.2.2.2.length cq3)] 26 (0, 0))) := Aside0.mk (blk_below (blk_new w4 _) hb)
       have kq5_0 : w5.cell? ⟨w4.heap.size, 0, none⟩ = some (.string emptyO.1) := (blk_cell BKq5.out 0).trans rfl
       have kq5_1 : w5.cell? ⟨w4.heap.size, 1, none⟩ = some (.slice Aq1 emptyO.2.1.length cq1) := (blk_cell BKq5.out 1).trans rfl
       have kq5_2 : w5.cell? ⟨w4.heap.size, 2, none⟩ = some (.slice Aq2 emptyO.2.2.1.length cq2) := (blk_cell BKq5.out 2).trans rfl
       have kq5_3 : w5.cell? ⟨w4.heap.size, 3, none⟩ = some (.slice Aq3 emptyO.2.2.2.length cq3) := (blk_cell BKq5.out 3).trans rfl
       have ltq5 := blk_lt BKq5.out
       clear hb HB4 HOa4 HOp4 ka4_0 ka4_1 ka4_2 ka4_3 lta4 BKa4 kp4_0 kp4_1 kp4_2 kp4_3 ltp4 BKp4 HN4))
  go_ret
  exact ⟨rfl, HB5.out⟩
set_option maxHeartbeats 4000000 in
set_option maxRecDepth 100000 in
theorem cuts4 {w : World} {v : Value} {o : Obj6} {at_ : Int} (ha : Ob w v o) (hw : wordsOk o.2.1) (hsm : decide (o.2.2.1.length ≤ 200) = true) (hm : mayO o = true) (hn : ¬ at_ < 0) (hz : ¬ (formO o).size = 0) (ht0 : 0 ≤ (at_ % ((formO o).size : Int))) (ht1 : (at_ % ((formO o).size : Int)) < ((formO o).size : Int)) : Calls Try.prog 6 #[v, .int .i64 at_, .string ⟨#[]⟩] w fun e w' => e = .returned (.bool true) ∧ Below w.heap.size w w' := by
  obtain ⟨Aa1, ca1, Aa2, ca2, Aa3, ca3, rfl, ha0⟩ := ha.parts
  have Ha := Aside0.mk ha0
  clear ha ha0
  have cut := rd_cutAt hm hw (k := ((at_ % ((formO o).size : Int))).toNat) (by omega)
  have fs := form_small hm
  have mor := rd_formO hm hw
  rw [← empty_append (formO o)] at mor
  have hz2 : ¬ ((formO o).size : Int) = 0 := by omega
  have ht2 : (at_ % ((formO o).size : Int)) ≤ ((formO o).size : Int) := by omega
  have hsum : ¬ 9223372036854775807 < (formO o).size := by omega
  have HSM := Aside0.mk hsm
  have HW := Aside0.mk hw
  have HM := Aside0.mk hm
  have CUT := Aside0.mk cut
  have MOR := Aside0.mk mor
  have FS := Aside0.mk fs
  clear hsm hw hm cut mor fs
  have T1 : True := trivial
  have T2 : True := trivial
  have T3 : True := trivial
  have T4 : True := trivial
  have T5 : True := trivial
  go_enter Try.func6, Try.ntmps6
  go_wp2_with (first
    | (clear T1; go_at_call 8; (with_reducible refine (small_c (Ob.more Ha.out _) true HSM.out).mono ?_); rintro e w1 ⟨rfl, hb⟩
       have HB1 := Aside0.mk (below_in (below_alloc (Below.refl w.heap.size w) _) hb)
       have HOa1 := Aside0.mk (Ob.below (Ob.more Ha.out _) hb)
       have BKa1 : Aside0 (w1.heap[w.heap.size]? = some (.cells #[(.string o.1), (.slice Aa1 o.2.1.length ca1), (.slice Aa2 o.2.2.1.length ca2), (.slice Aa3 o.2.2.2.length ca3)] 26 (0, 0))) := Aside0.mk (blk_below (blk_new w _) hb)
       have ka1_0 : w1.cell? ⟨w.heap.size, 0, none⟩ = some (.string o.1) := (blk_cell BKa1.out 0).trans rfl
       have ka1_1 : w1.cell? ⟨w.heap.size, 1, none⟩ = some (.slice Aa1 o.2.1.length ca1) := (blk_cell BKa1.out 1).trans rfl
       have ka1_2 : w1.cell? ⟨w.heap.size, 2, none⟩ = some (.slice Aa2 o.2.2.1.length ca2) := (blk_cell BKa1.out 2).trans rfl
       have ka1_3 : w1.cell? ⟨w.heap.size, 3, none⟩ = some (.slice Aa3 o.2.2.2.length ca3) := (blk_cell BKa1.out 3).trans rfl
       have lta1 := blk_lt BKa1.out
       clear hb)
    | (clear T2; go_at_call 11; (with_reducible refine (write_yes HOa1.out HW.out HM.out).mono ?_); rintro e w2 ⟨rfl, hb⟩
       have HB2 := Aside0.mk (below_in HB1.out hb)
       have HOa2 := Aside0.mk (Ob.below HOa1.out hb)
       have BKa2 : Aside0 (w2.heap[w.heap.size]? = some (.cells #[(.string o.1), (.slice Aa1 o.2.1.length ca1), (.slice Aa2 o.2.2.1.length ca2), (.slice Aa3 o.2.2.2.length ca3)] 26 (0, 0))) := Aside0.mk (blk_below BKa1.out hb)
       have ka2_0 : w2.cell? ⟨w.heap.size, 0, none⟩ = some (.string o.1) := (blk_cell BKa2.out 0).trans rfl
       have ka2_1 : w2.cell? ⟨w.heap.size, 1, none⟩ = some (.slice Aa1 o.2.1.length ca1) := (blk_cell BKa2.out 1).trans rfl
       have ka2_2 : w2.cell? ⟨w.heap.size, 2, none⟩ = some (.slice Aa2 o.2.2.1.length ca2) := (blk_cell BKa2.out 2).trans rfl
       have ka2_3 : w2.cell? ⟨w.heap.size, 3, none⟩ = some (.slice Aa3 o.2.2.2.length ca3) := (blk_cell BKa2.out 3).trans rfl
       have lta2 := blk_lt BKa2.out
       clear hb HB1 HOa1 ka1_0 ka1_1 ka1_2 ka1_3 lta1 BKa1)
    | (clear T3; go_at_call 16; (with_reducible refine (read_no (by rw [ByteArray.size_extract]; have := FS.out; omega) CUT.out _).mono ?_); rintro e w3 ⟨v3, rfl, ho, hb⟩
       obtain ⟨Ap1, cp1, Ap2, cp2, Ap3, cp3, rfl, ho2⟩ := ho.parts
       have HN3 := Aside0.mk ho2
       clear ho ho2
       have HB3 := Aside0.mk (below_in HB2.out hb)
       have HOa3 := Aside0.mk (Ob.below HOa2.out hb)
       have BKa3 : Aside0 (w3.heap[w.heap.size]? = some (.cells #[(.string o.1), (.slice Aa1 o.2.1.length ca1), (.slice Aa2 o.2.2.1.length ca2), (.slice Aa3 o.2.2.2.length ca3)] 26 (0, 0))) := Aside0.mk (blk_below BKa2.out hb)
       have ka3_0 : w3.cell? ⟨w.heap.size, 0, none⟩ = some (.string o.1) := (blk_cell BKa3.out 0).trans rfl
       have ka3_1 : w3.cell? ⟨w.heap.size, 1, none⟩ = some (.slice Aa1 o.2.1.length ca1) := (blk_cell BKa3.out 1).trans rfl
       have ka3_2 : w3.cell? ⟨w.heap.size, 2, none⟩ = some (.slice Aa2 o.2.2.1.length ca2) := (blk_cell BKa3.out 2).trans rfl
       have ka3_3 : w3.cell? ⟨w.heap.size, 3, none⟩ = some (.slice Aa3 o.2.2.2.length ca3) := (blk_cell BKa3.out 3).trans rfl
       have lta3 := blk_lt BKa3.out
       clear hb HB2 HOa2 ka2_0 ka2_1 ka2_2 ka2_3 lta2 BKa2)
    | (clear T4; go_at_call 16; (with_reducible refine (read_yes (by rw [empty_append]; have := FS.out; omega) MOR.out _).mono ?_); rintro e w4 ⟨v4, rfl, ho, hb⟩
       obtain ⟨Aq1, cq1, Aq2, cq2, Aq3, cq3, rfl, ho2⟩ := ho.parts
       have HN4 := Aside0.mk ho2
       clear ho ho2
       have HB4 := Aside0.mk (below_in (below_alloc HB3.out _) hb)
       have HOa4 := Aside0.mk (Ob.below (Ob.more HOa3.out _) hb)
       have HOp4 := Aside0.mk (Ob.below (Ob.more HN3.out _) hb)
       have BKa4 : Aside0 (w4.heap[w.heap.size]? = some (.cells #[(.string o.1), (.slice Aa1 o.2.1.length ca1), (.slice Aa2 o.2.2.1.length ca2), (.slice Aa3 o.2.2.2.length ca3)] 26 (0, 0))) := Aside0.mk (blk_below (blk_alloc BKa3.out _) hb)
       have ka4_0 : w4.cell? ⟨w.heap.size, 0, none⟩ = some (.string o.1) := (blk_cell BKa4.out 0).trans rfl
       have ka4_1 : w4.cell? ⟨w.heap.size, 1, none⟩ = some (.slice Aa1 o.2.1.length ca1) := (blk_cell BKa4.out 1).trans rfl
       have ka4_2 : w4.cell? ⟨w.heap.size, 2, none⟩ = some (.slice Aa2 o.2.2.1.length ca2) := (blk_cell BKa4.out 2).trans rfl
       have ka4_3 : w4.cell? ⟨w.heap.size, 3, none⟩ = some (.slice Aa3 o.2.2.2.length ca3) := (blk_cell BKa4.out 3).trans rfl
       have lta4 := blk_lt BKa4.out
       have BKp4 : Aside0 (w4.heap[w3.heap.size]? = some (.cells #[(.string emptyO.1), (.slice Ap1 emptyO.2.1.length cp1), (.slice Ap2 emptyO.2.2.1.length cp2), (.slice Ap3 emptyO.2.2.2.length cp3)] 26 (0, 0))) := Aside0.mk (blk_below (blk_new w3 _) hb)
       have kp4_0 : w4.cell? ⟨w3.heap.size, 0, none⟩ = some (.string emptyO.1) := (blk_cell BKp4.out 0).trans rfl
       have kp4_1 : w4.cell? ⟨w3.heap.size, 1, none⟩ = some (.slice Ap1 emptyO.2.1.length cp1) := (blk_cell BKp4.out 1).trans rfl
       have kp4_2 : w4.cell? ⟨w3.heap.size, 2, none⟩ = some (.slice Ap2 emptyO.2.2.1.length cp2) := (blk_cell BKp4.out 2).trans rfl
       have kp4_3 : w4.cell? ⟨w3.heap.size, 3, none⟩ = some (.slice Ap3 emptyO.2.2.2.length cp3) := (blk_cell BKp4.out 3).trans rfl
       have ltp4 := blk_lt BKp4.out
       clear hb HB3 HOa3 ka3_0 ka3_1 ka3_2 ka3_3 lta3 BKa3 HN3)
    | (clear T5; go_at_call 9; (with_reducible refine (live_c _).mono ?_); rintro e w5 ⟨rfl, hb⟩
       have HB5 := Aside0.mk (below_in (below_alloc HB4.out _) hb)
       have HOa5 := Aside0.mk (Ob.below (Ob.more HOa4.out _) hb)
       have HOp5 := Aside0.mk (Ob.below (Ob.more HOp4.out _) hb)
       have HOq5 := Aside0.mk (Ob.below (Ob.more HN4.out _) hb)
       have BKa5 : Aside0 (w5.heap[w.heap.size]? = some (.cells #[(.string o.1), (.slice Aa1 o.2.1.length ca1), (.slice Aa2 o.2.2.1.length ca2), (.slice Aa3 o.2.2.2.length ca3)] 26 (0, 0))) := Aside0.mk (blk_below (blk_alloc BKa4.out _) hb)
       have ka5_0 : w5.cell? ⟨w.heap.size, 0, none⟩ = some (.string o.1) := (blk_cell BKa5.out 0).trans rfl
       have ka5_1 : w5.cell? ⟨w.heap.size, 1, none⟩ = some (.slice Aa1 o.2.1.length ca1) := (blk_cell BKa5.out 1).trans rfl
       have ka5_2 : w5.cell? ⟨w.heap.size, 2, none⟩ = some (.slice Aa2 o.2.2.1.length ca2) := (blk_cell BKa5.out 2).trans rfl
       have ka5_3 : w5.cell? ⟨w.heap.size, 3, none⟩ = some (.slice Aa3 o.2.2.2.length ca3) := (blk_cell BKa5.out 3).trans rfl
       have lta5 := blk_lt BKa5.out
       have BKp5 : Aside0 (w5.heap[w3.heap.size]? = some (.cells #[(.string emptyO.1), (.slice Ap1 emptyO.2.1.length cp1), (.slice Ap2 emptyO.2.2.1.length cp2), (.slice Ap3 emptyO.2.2.2.length cp3)] 26 (0, 0))) := Aside0.mk (blk_below (blk_alloc BKp4.out _) hb)
       have kp5_0 : w5.cell? ⟨w3.heap.size, 0, none⟩ = some (.string emptyO.1) := (blk_cell BKp5.out 0).trans rfl
       have kp5_1 : w5.cell? ⟨w3.heap.size, 1, none⟩ = some (.slice Ap1 emptyO.2.1.length cp1) := (blk_cell BKp5.out 1).trans rfl
       have kp5_2 : w5.cell? ⟨w3.heap.size, 2, none⟩ = some (.slice Ap2 emptyO.2.2.1.length cp2) := (blk_cell BKp5.out 2).trans rfl
       have kp5_3 : w5.cell? ⟨w3.heap.size, 3, none⟩ = some (.slice Ap3 emptyO.2.2.2.length cp3) := (blk_cell BKp5.out 3).trans rfl
       have ltp5 := blk_lt BKp5.out
       have BKq5 : Aside0 (w5.heap[w4.heap.size]? = some (.cells #[(.string o.1), (.slice Aq1 o.2.1.length cq1), (.slice Aq2 o.2.2.1.length cq2), (.slice Aq3 o.2.2.2.length cq3)] 26 (0, 0))) := Aside0.mk (blk_below (blk_new w4 _) hb)
       have kq5_0 : w5.cell? ⟨w4.heap.size, 0, none⟩ = some (.string o.1) := (blk_cell BKq5.out 0).trans rfl
       have kq5_1 : w5.cell? ⟨w4.heap.size, 1, none⟩ = some (.slice Aq1 o.2.1.length cq1) := (blk_cell BKq5.out 1).trans rfl
       have kq5_2 : w5.cell? ⟨w4.heap.size, 2, none⟩ = some (.slice Aq2 o.2.2.1.length cq2) := (blk_cell BKq5.out 2).trans rfl
       have kq5_3 : w5.cell? ⟨w4.heap.size, 3, none⟩ = some (.slice Aq3 o.2.2.2.length cq3) := (blk_cell BKq5.out 3).trans rfl
       have ltq5 := blk_lt BKq5.out
       clear hb HB4 HOa4 HOp4 ka4_0 ka4_1 ka4_2 ka4_3 lta4 BKa4 kp4_0 kp4_1 kp4_2 kp4_3 ltp4 BKp4 HN4))
  go_ret
  exact ⟨rfl, HB5.out⟩
set_option maxHeartbeats 4000000 in
set_option maxRecDepth 100000 in
theorem cuts5 {w : World} {v : Value} {o : Obj6} {at_ : Int} {more : ByteArray} (ha : Ob w v o) (hw : wordsOk o.2.1) (hx : more.size ≤ 140737488355328) (hsm : decide (o.2.2.1.length ≤ 200) = true) (hm : mayO o = true) (hn : at_ < 0) (hz : ¬ (formO o).size = 0) (ht0 : 0 ≤ ((wrap64 (-wrap64 (at_ + 1))).tmod ((formO o).size : Int))) (ht1 : ((wrap64 (-wrap64 (at_ + 1))).tmod ((formO o).size : Int)) < ((formO o).size : Int)) (hne : ¬ more.toList = []) (hn0 : ¬ more.size = 0) : Calls Try.prog 6 #[v, .int .i64 at_, .string more] w fun e w' => e = .returned (.bool true) ∧ Below w.heap.size w w' := by
  obtain ⟨Aa1, ca1, Aa2, ca2, Aa3, ca3, rfl, ha0⟩ := ha.parts
  have Ha := Aside0.mk ha0
  clear ha ha0
  have cut := rd_cutAt hm hw (k := (((wrap64 (-wrap64 (at_ + 1))).tmod ((formO o).size : Int))).toNat) (by omega)
  have fs := form_small hm
  have mor := rd_more hm hw hn0
  have hz2 : ¬ ((formO o).size : Int) = 0 := by omega
  have ht2 : ((wrap64 (-wrap64 (at_ + 1))).tmod ((formO o).size : Int)) ≤ ((formO o).size : Int) := by omega
  have hsum : ¬ 9223372036854775807 < (formO o).size + more.size := by omega
  have HSM := Aside0.mk hsm
  have HW := Aside0.mk hw
  have HM := Aside0.mk hm
  have CUT := Aside0.mk cut
  have MOR := Aside0.mk mor
  have FS := Aside0.mk fs
  have HX := Aside0.mk hx
  clear hsm hw hm cut mor fs hx
  have T1 : True := trivial
  have T2 : True := trivial
  have T3 : True := trivial
  have T4 : True := trivial
  have T5 : True := trivial
  go_enter Try.func6, Try.ntmps6
  go_wp2_with (first
    | (clear T1; go_at_call 8; (with_reducible refine (small_c (Ob.more Ha.out _) true HSM.out).mono ?_); rintro e w1 ⟨rfl, hb⟩
       have HB1 := Aside0.mk (below_in (below_alloc (Below.refl w.heap.size w) _) hb)
       have HOa1 := Aside0.mk (Ob.below (Ob.more Ha.out _) hb)
       have BKa1 : Aside0 (w1.heap[w.heap.size]? = some (.cells #[(.string o.1), (.slice Aa1 o.2.1.length ca1), (.slice Aa2 o.2.2.1.length ca2), (.slice Aa3 o.2.2.2.length ca3)] 26 (0, 0))) := Aside0.mk (blk_below (blk_new w _) hb)
       have ka1_0 : w1.cell? ⟨w.heap.size, 0, none⟩ = some (.string o.1) := (blk_cell BKa1.out 0).trans rfl
       have ka1_1 : w1.cell? ⟨w.heap.size, 1, none⟩ = some (.slice Aa1 o.2.1.length ca1) := (blk_cell BKa1.out 1).trans rfl
       have ka1_2 : w1.cell? ⟨w.heap.size, 2, none⟩ = some (.slice Aa2 o.2.2.1.length ca2) := (blk_cell BKa1.out 2).trans rfl
       have ka1_3 : w1.cell? ⟨w.heap.size, 3, none⟩ = some (.slice Aa3 o.2.2.2.length ca3) := (blk_cell BKa1.out 3).trans rfl
       have lta1 := blk_lt BKa1.out
       clear hb)
    | (clear T2; go_at_call 11; (with_reducible refine (write_yes HOa1.out HW.out HM.out).mono ?_); rintro e w2 ⟨rfl, hb⟩
       have HB2 := Aside0.mk (below_in HB1.out hb)
       have HOa2 := Aside0.mk (Ob.below HOa1.out hb)
       have BKa2 : Aside0 (w2.heap[w.heap.size]? = some (.cells #[(.string o.1), (.slice Aa1 o.2.1.length ca1), (.slice Aa2 o.2.2.1.length ca2), (.slice Aa3 o.2.2.2.length ca3)] 26 (0, 0))) := Aside0.mk (blk_below BKa1.out hb)
       have ka2_0 : w2.cell? ⟨w.heap.size, 0, none⟩ = some (.string o.1) := (blk_cell BKa2.out 0).trans rfl
       have ka2_1 : w2.cell? ⟨w.heap.size, 1, none⟩ = some (.slice Aa1 o.2.1.length ca1) := (blk_cell BKa2.out 1).trans rfl
       have ka2_2 : w2.cell? ⟨w.heap.size, 2, none⟩ = some (.slice Aa2 o.2.2.1.length ca2) := (blk_cell BKa2.out 2).trans rfl
       have ka2_3 : w2.cell? ⟨w.heap.size, 3, none⟩ = some (.slice Aa3 o.2.2.2.length ca3) := (blk_cell BKa2.out 3).trans rfl
       have lta2 := blk_lt BKa2.out
       clear hb HB1 HOa1 ka1_0 ka1_1 ka1_2 ka1_3 lta1 BKa1)
    | (clear T3; go_at_call 16; (with_reducible refine (read_no (by rw [ByteArray.size_extract]; have := FS.out; omega) CUT.out _).mono ?_); rintro e w3 ⟨v3, rfl, ho, hb⟩
       obtain ⟨Ap1, cp1, Ap2, cp2, Ap3, cp3, rfl, ho2⟩ := ho.parts
       have HN3 := Aside0.mk ho2
       clear ho ho2
       have HB3 := Aside0.mk (below_in HB2.out hb)
       have HOa3 := Aside0.mk (Ob.below HOa2.out hb)
       have BKa3 : Aside0 (w3.heap[w.heap.size]? = some (.cells #[(.string o.1), (.slice Aa1 o.2.1.length ca1), (.slice Aa2 o.2.2.1.length ca2), (.slice Aa3 o.2.2.2.length ca3)] 26 (0, 0))) := Aside0.mk (blk_below BKa2.out hb)
       have ka3_0 : w3.cell? ⟨w.heap.size, 0, none⟩ = some (.string o.1) := (blk_cell BKa3.out 0).trans rfl
       have ka3_1 : w3.cell? ⟨w.heap.size, 1, none⟩ = some (.slice Aa1 o.2.1.length ca1) := (blk_cell BKa3.out 1).trans rfl
       have ka3_2 : w3.cell? ⟨w.heap.size, 2, none⟩ = some (.slice Aa2 o.2.2.1.length ca2) := (blk_cell BKa3.out 2).trans rfl
       have ka3_3 : w3.cell? ⟨w.heap.size, 3, none⟩ = some (.slice Aa3 o.2.2.2.length ca3) := (blk_cell BKa3.out 3).trans rfl
       have lta3 := blk_lt BKa3.out
       clear hb HB2 HOa2 ka2_0 ka2_1 ka2_2 ka2_3 lta2 BKa2)
    | (clear T4; go_at_call 16; (with_reducible refine (read_no (by rw [ByteArray.size_append]; have := FS.out; have := HX.out; omega) MOR.out _).mono ?_); rintro e w4 ⟨v4, rfl, ho, hb⟩
       obtain ⟨Aq1, cq1, Aq2, cq2, Aq3, cq3, rfl, ho2⟩ := ho.parts
       have HN4 := Aside0.mk ho2
       clear ho ho2
       have HB4 := Aside0.mk (below_in (below_alloc HB3.out _) hb)
       have HOa4 := Aside0.mk (Ob.below (Ob.more HOa3.out _) hb)
       have HOp4 := Aside0.mk (Ob.below (Ob.more HN3.out _) hb)
       have BKa4 : Aside0 (w4.heap[w.heap.size]? = some (.cells #[(.string o.1), (.slice Aa1 o.2.1.length ca1), (.slice Aa2 o.2.2.1.length ca2), (.slice Aa3 o.2.2.2.length ca3)] 26 (0, 0))) := Aside0.mk (blk_below (blk_alloc BKa3.out _) hb)
       have ka4_0 : w4.cell? ⟨w.heap.size, 0, none⟩ = some (.string o.1) := (blk_cell BKa4.out 0).trans rfl
       have ka4_1 : w4.cell? ⟨w.heap.size, 1, none⟩ = some (.slice Aa1 o.2.1.length ca1) := (blk_cell BKa4.out 1).trans rfl
       have ka4_2 : w4.cell? ⟨w.heap.size, 2, none⟩ = some (.slice Aa2 o.2.2.1.length ca2) := (blk_cell BKa4.out 2).trans rfl
       have ka4_3 : w4.cell? ⟨w.heap.size, 3, none⟩ = some (.slice Aa3 o.2.2.2.length ca3) := (blk_cell BKa4.out 3).trans rfl
       have lta4 := blk_lt BKa4.out
       have BKp4 : Aside0 (w4.heap[w3.heap.size]? = some (.cells #[(.string emptyO.1), (.slice Ap1 emptyO.2.1.length cp1), (.slice Ap2 emptyO.2.2.1.length cp2), (.slice Ap3 emptyO.2.2.2.length cp3)] 26 (0, 0))) := Aside0.mk (blk_below (blk_new w3 _) hb)
       have kp4_0 : w4.cell? ⟨w3.heap.size, 0, none⟩ = some (.string emptyO.1) := (blk_cell BKp4.out 0).trans rfl
       have kp4_1 : w4.cell? ⟨w3.heap.size, 1, none⟩ = some (.slice Ap1 emptyO.2.1.length cp1) := (blk_cell BKp4.out 1).trans rfl
       have kp4_2 : w4.cell? ⟨w3.heap.size, 2, none⟩ = some (.slice Ap2 emptyO.2.2.1.length cp2) := (blk_cell BKp4.out 2).trans rfl
       have kp4_3 : w4.cell? ⟨w3.heap.size, 3, none⟩ = some (.slice Ap3 emptyO.2.2.2.length cp3) := (blk_cell BKp4.out 3).trans rfl
       have ltp4 := blk_lt BKp4.out
       clear hb HB3 HOa3 ka3_0 ka3_1 ka3_2 ka3_3 lta3 BKa3 HN3)
    | (clear T5; go_at_call 9; (with_reducible refine (live_c _).mono ?_); rintro e w5 ⟨rfl, hb⟩
       have HB5 := Aside0.mk (below_in (below_alloc HB4.out _) hb)
       have HOa5 := Aside0.mk (Ob.below (Ob.more HOa4.out _) hb)
       have HOp5 := Aside0.mk (Ob.below (Ob.more HOp4.out _) hb)
       have HOq5 := Aside0.mk (Ob.below (Ob.more HN4.out _) hb)
       have BKa5 : Aside0 (w5.heap[w.heap.size]? = some (.cells #[(.string o.1), (.slice Aa1 o.2.1.length ca1), (.slice Aa2 o.2.2.1.length ca2), (.slice Aa3 o.2.2.2.length ca3)] 26 (0, 0))) := Aside0.mk (blk_below (blk_alloc BKa4.out _) hb)
       have ka5_0 : w5.cell? ⟨w.heap.size, 0, none⟩ = some (.string o.1) := (blk_cell BKa5.out 0).trans rfl
       have ka5_1 : w5.cell? ⟨w.heap.size, 1, none⟩ = some (.slice Aa1 o.2.1.length ca1) := (blk_cell BKa5.out 1).trans rfl
       have ka5_2 : w5.cell? ⟨w.heap.size, 2, none⟩ = some (.slice Aa2 o.2.2.1.length ca2) := (blk_cell BKa5.out 2).trans rfl
       have ka5_3 : w5.cell? ⟨w.heap.size, 3, none⟩ = some (.slice Aa3 o.2.2.2.length ca3) := (blk_cell BKa5.out 3).trans rfl
       have lta5 := blk_lt BKa5.out
       have BKp5 : Aside0 (w5.heap[w3.heap.size]? = some (.cells #[(.string emptyO.1), (.slice Ap1 emptyO.2.1.length cp1), (.slice Ap2 emptyO.2.2.1.length cp2), (.slice Ap3 emptyO.2.2.2.length cp3)] 26 (0, 0))) := Aside0.mk (blk_below (blk_alloc BKp4.out _) hb)
       have kp5_0 : w5.cell? ⟨w3.heap.size, 0, none⟩ = some (.string emptyO.1) := (blk_cell BKp5.out 0).trans rfl
       have kp5_1 : w5.cell? ⟨w3.heap.size, 1, none⟩ = some (.slice Ap1 emptyO.2.1.length cp1) := (blk_cell BKp5.out 1).trans rfl
       have kp5_2 : w5.cell? ⟨w3.heap.size, 2, none⟩ = some (.slice Ap2 emptyO.2.2.1.length cp2) := (blk_cell BKp5.out 2).trans rfl
       have kp5_3 : w5.cell? ⟨w3.heap.size, 3, none⟩ = some (.slice Ap3 emptyO.2.2.2.length cp3) := (blk_cell BKp5.out 3).trans rfl
       have ltp5 := blk_lt BKp5.out
       have BKq5 : Aside0 (w5.heap[w4.heap.size]? = some (.cells #[(.string emptyO.1), (.slice Aq1 emptyO.2.1.length cq1), (.slice Aq2 emptyO.2.2.1.length cq2), (.slice Aq3 emptyO.2.2.2.length cq3)] 26 (0, 0))) := Aside0.mk (blk_below (blk_new w4 _) hb)
       have kq5_0 : w5.cell? ⟨w4.heap.size, 0, none⟩ = some (.string emptyO.1) := (blk_cell BKq5.out 0).trans rfl
       have kq5_1 : w5.cell? ⟨w4.heap.size, 1, none⟩ = some (.slice Aq1 emptyO.2.1.length cq1) := (blk_cell BKq5.out 1).trans rfl
       have kq5_2 : w5.cell? ⟨w4.heap.size, 2, none⟩ = some (.slice Aq2 emptyO.2.2.1.length cq2) := (blk_cell BKq5.out 2).trans rfl
       have kq5_3 : w5.cell? ⟨w4.heap.size, 3, none⟩ = some (.slice Aq3 emptyO.2.2.2.length cq3) := (blk_cell BKq5.out 3).trans rfl
       have ltq5 := blk_lt BKq5.out
       clear hb HB4 HOa4 HOp4 ka4_0 ka4_1 ka4_2 ka4_3 lta4 BKa4 kp4_0 kp4_1 kp4_2 kp4_3 ltp4 BKp4 HN4))
  go_ret
  exact ⟨rfl, HB5.out⟩
set_option maxHeartbeats 4000000 in
set_option maxRecDepth 100000 in
theorem cuts6 {w : World} {v : Value} {o : Obj6} {at_ : Int} (ha : Ob w v o) (hw : wordsOk o.2.1) (hsm : decide (o.2.2.1.length ≤ 200) = true) (hm : mayO o = true) (hn : at_ < 0) (hz : ¬ (formO o).size = 0) (ht0 : 0 ≤ ((wrap64 (-wrap64 (at_ + 1))).tmod ((formO o).size : Int))) (ht1 : ((wrap64 (-wrap64 (at_ + 1))).tmod ((formO o).size : Int)) < ((formO o).size : Int)) : Calls Try.prog 6 #[v, .int .i64 at_, .string ⟨#[]⟩] w fun e w' => e = .returned (.bool true) ∧ Below w.heap.size w w' := by
  obtain ⟨Aa1, ca1, Aa2, ca2, Aa3, ca3, rfl, ha0⟩ := ha.parts
  have Ha := Aside0.mk ha0
  clear ha ha0
  have cut := rd_cutAt hm hw (k := (((wrap64 (-wrap64 (at_ + 1))).tmod ((formO o).size : Int))).toNat) (by omega)
  have fs := form_small hm
  have mor := rd_formO hm hw
  rw [← empty_append (formO o)] at mor
  have hz2 : ¬ ((formO o).size : Int) = 0 := by omega
  have ht2 : ((wrap64 (-wrap64 (at_ + 1))).tmod ((formO o).size : Int)) ≤ ((formO o).size : Int) := by omega
  have hsum : ¬ 9223372036854775807 < (formO o).size := by omega
  have HSM := Aside0.mk hsm
  have HW := Aside0.mk hw
  have HM := Aside0.mk hm
  have CUT := Aside0.mk cut
  have MOR := Aside0.mk mor
  have FS := Aside0.mk fs
  clear hsm hw hm cut mor fs
  have T1 : True := trivial
  have T2 : True := trivial
  have T3 : True := trivial
  have T4 : True := trivial
  have T5 : True := trivial
  go_enter Try.func6, Try.ntmps6
  go_wp2_with (first
    | (clear T1; go_at_call 8; (with_reducible refine (small_c (Ob.more Ha.out _) true HSM.out).mono ?_); rintro e w1 ⟨rfl, hb⟩
       have HB1 := Aside0.mk (below_in (below_alloc (Below.refl w.heap.size w) _) hb)
       have HOa1 := Aside0.mk (Ob.below (Ob.more Ha.out _) hb)
       have BKa1 : Aside0 (w1.heap[w.heap.size]? = some (.cells #[(.string o.1), (.slice Aa1 o.2.1.length ca1), (.slice Aa2 o.2.2.1.length ca2), (.slice Aa3 o.2.2.2.length ca3)] 26 (0, 0))) := Aside0.mk (blk_below (blk_new w _) hb)
       have ka1_0 : w1.cell? ⟨w.heap.size, 0, none⟩ = some (.string o.1) := (blk_cell BKa1.out 0).trans rfl
       have ka1_1 : w1.cell? ⟨w.heap.size, 1, none⟩ = some (.slice Aa1 o.2.1.length ca1) := (blk_cell BKa1.out 1).trans rfl
       have ka1_2 : w1.cell? ⟨w.heap.size, 2, none⟩ = some (.slice Aa2 o.2.2.1.length ca2) := (blk_cell BKa1.out 2).trans rfl
       have ka1_3 : w1.cell? ⟨w.heap.size, 3, none⟩ = some (.slice Aa3 o.2.2.2.length ca3) := (blk_cell BKa1.out 3).trans rfl
       have lta1 := blk_lt BKa1.out
       clear hb)
    | (clear T2; go_at_call 11; (with_reducible refine (write_yes HOa1.out HW.out HM.out).mono ?_); rintro e w2 ⟨rfl, hb⟩
       have HB2 := Aside0.mk (below_in HB1.out hb)
       have HOa2 := Aside0.mk (Ob.below HOa1.out hb)
       have BKa2 : Aside0 (w2.heap[w.heap.size]? = some (.cells #[(.string o.1), (.slice Aa1 o.2.1.length ca1), (.slice Aa2 o.2.2.1.length ca2), (.slice Aa3 o.2.2.2.length ca3)] 26 (0, 0))) := Aside0.mk (blk_below BKa1.out hb)
       have ka2_0 : w2.cell? ⟨w.heap.size, 0, none⟩ = some (.string o.1) := (blk_cell BKa2.out 0).trans rfl
       have ka2_1 : w2.cell? ⟨w.heap.size, 1, none⟩ = some (.slice Aa1 o.2.1.length ca1) := (blk_cell BKa2.out 1).trans rfl
       have ka2_2 : w2.cell? ⟨w.heap.size, 2, none⟩ = some (.slice Aa2 o.2.2.1.length ca2) := (blk_cell BKa2.out 2).trans rfl
       have ka2_3 : w2.cell? ⟨w.heap.size, 3, none⟩ = some (.slice Aa3 o.2.2.2.length ca3) := (blk_cell BKa2.out 3).trans rfl
       have lta2 := blk_lt BKa2.out
       clear hb HB1 HOa1 ka1_0 ka1_1 ka1_2 ka1_3 lta1 BKa1)
    | (clear T3; go_at_call 16; (with_reducible refine (read_no (by rw [ByteArray.size_extract]; have := FS.out; omega) CUT.out _).mono ?_); rintro e w3 ⟨v3, rfl, ho, hb⟩
       obtain ⟨Ap1, cp1, Ap2, cp2, Ap3, cp3, rfl, ho2⟩ := ho.parts
       have HN3 := Aside0.mk ho2
       clear ho ho2
       have HB3 := Aside0.mk (below_in HB2.out hb)
       have HOa3 := Aside0.mk (Ob.below HOa2.out hb)
       have BKa3 : Aside0 (w3.heap[w.heap.size]? = some (.cells #[(.string o.1), (.slice Aa1 o.2.1.length ca1), (.slice Aa2 o.2.2.1.length ca2), (.slice Aa3 o.2.2.2.length ca3)] 26 (0, 0))) := Aside0.mk (blk_below BKa2.out hb)
       have ka3_0 : w3.cell? ⟨w.heap.size, 0, none⟩ = some (.string o.1) := (blk_cell BKa3.out 0).trans rfl
       have ka3_1 : w3.cell? ⟨w.heap.size, 1, none⟩ = some (.slice Aa1 o.2.1.length ca1) := (blk_cell BKa3.out 1).trans rfl
       have ka3_2 : w3.cell? ⟨w.heap.size, 2, none⟩ = some (.slice Aa2 o.2.2.1.length ca2) := (blk_cell BKa3.out 2).trans rfl
       have ka3_3 : w3.cell? ⟨w.heap.size, 3, none⟩ = some (.slice Aa3 o.2.2.2.length ca3) := (blk_cell BKa3.out 3).trans rfl
       have lta3 := blk_lt BKa3.out
       clear hb HB2 HOa2 ka2_0 ka2_1 ka2_2 ka2_3 lta2 BKa2)
    | (clear T4; go_at_call 16; (with_reducible refine (read_yes (by rw [empty_append]; have := FS.out; omega) MOR.out _).mono ?_); rintro e w4 ⟨v4, rfl, ho, hb⟩
       obtain ⟨Aq1, cq1, Aq2, cq2, Aq3, cq3, rfl, ho2⟩ := ho.parts
       have HN4 := Aside0.mk ho2
       clear ho ho2
       have HB4 := Aside0.mk (below_in (below_alloc HB3.out _) hb)
       have HOa4 := Aside0.mk (Ob.below (Ob.more HOa3.out _) hb)
       have HOp4 := Aside0.mk (Ob.below (Ob.more HN3.out _) hb)
       have BKa4 : Aside0 (w4.heap[w.heap.size]? = some (.cells #[(.string o.1), (.slice Aa1 o.2.1.length ca1), (.slice Aa2 o.2.2.1.length ca2), (.slice Aa3 o.2.2.2.length ca3)] 26 (0, 0))) := Aside0.mk (blk_below (blk_alloc BKa3.out _) hb)
       have ka4_0 : w4.cell? ⟨w.heap.size, 0, none⟩ = some (.string o.1) := (blk_cell BKa4.out 0).trans rfl
       have ka4_1 : w4.cell? ⟨w.heap.size, 1, none⟩ = some (.slice Aa1 o.2.1.length ca1) := (blk_cell BKa4.out 1).trans rfl
       have ka4_2 : w4.cell? ⟨w.heap.size, 2, none⟩ = some (.slice Aa2 o.2.2.1.length ca2) := (blk_cell BKa4.out 2).trans rfl
       have ka4_3 : w4.cell? ⟨w.heap.size, 3, none⟩ = some (.slice Aa3 o.2.2.2.length ca3) := (blk_cell BKa4.out 3).trans rfl
       have lta4 := blk_lt BKa4.out
       have BKp4 : Aside0 (w4.heap[w3.heap.size]? = some (.cells #[(.string emptyO.1), (.slice Ap1 emptyO.2.1.length cp1), (.slice Ap2 emptyO.2.2.1.length cp2), (.slice Ap3 emptyO.2.2.2.length cp3)] 26 (0, 0))) := Aside0.mk (blk_below (blk_new w3 _) hb)
       have kp4_0 : w4.cell? ⟨w3.heap.size, 0, none⟩ = some (.string emptyO.1) := (blk_cell BKp4.out 0).trans rfl
       have kp4_1 : w4.cell? ⟨w3.heap.size, 1, none⟩ = some (.slice Ap1 emptyO.2.1.length cp1) := (blk_cell BKp4.out 1).trans rfl
       have kp4_2 : w4.cell? ⟨w3.heap.size, 2, none⟩ = some (.slice Ap2 emptyO.2.2.1.length cp2) := (blk_cell BKp4.out 2).trans rfl
       have kp4_3 : w4.cell? ⟨w3.heap.size, 3, none⟩ = some (.slice Ap3 emptyO.2.2.2.length cp3) := (blk_cell BKp4.out 3).trans rfl
       have ltp4 := blk_lt BKp4.out
       clear hb HB3 HOa3 ka3_0 ka3_1 ka3_2 ka3_3 lta3 BKa3 HN3)
    | (clear T5; go_at_call 9; (with_reducible refine (live_c _).mono ?_); rintro e w5 ⟨rfl, hb⟩
       have HB5 := Aside0.mk (below_in (below_alloc HB4.out _) hb)
       have HOa5 := Aside0.mk (Ob.below (Ob.more HOa4.out _) hb)
       have HOp5 := Aside0.mk (Ob.below (Ob.more HOp4.out _) hb)
       have HOq5 := Aside0.mk (Ob.below (Ob.more HN4.out _) hb)
       have BKa5 : Aside0 (w5.heap[w.heap.size]? = some (.cells #[(.string o.1), (.slice Aa1 o.2.1.length ca1), (.slice Aa2 o.2.2.1.length ca2), (.slice Aa3 o.2.2.2.length ca3)] 26 (0, 0))) := Aside0.mk (blk_below (blk_alloc BKa4.out _) hb)
       have ka5_0 : w5.cell? ⟨w.heap.size, 0, none⟩ = some (.string o.1) := (blk_cell BKa5.out 0).trans rfl
       have ka5_1 : w5.cell? ⟨w.heap.size, 1, none⟩ = some (.slice Aa1 o.2.1.length ca1) := (blk_cell BKa5.out 1).trans rfl
       have ka5_2 : w5.cell? ⟨w.heap.size, 2, none⟩ = some (.slice Aa2 o.2.2.1.length ca2) := (blk_cell BKa5.out 2).trans rfl
       have ka5_3 : w5.cell? ⟨w.heap.size, 3, none⟩ = some (.slice Aa3 o.2.2.2.length ca3) := (blk_cell BKa5.out 3).trans rfl
       have lta5 := blk_lt BKa5.out
       have BKp5 : Aside0 (w5.heap[w3.heap.size]? = some (.cells #[(.string emptyO.1), (.slice Ap1 emptyO.2.1.length cp1), (.slice Ap2 emptyO.2.2.1.length cp2), (.slice Ap3 emptyO.2.2.2.length cp3)] 26 (0, 0))) := Aside0.mk (blk_below (blk_alloc BKp4.out _) hb)
       have kp5_0 : w5.cell? ⟨w3.heap.size, 0, none⟩ = some (.string emptyO.1) := (blk_cell BKp5.out 0).trans rfl
       have kp5_1 : w5.cell? ⟨w3.heap.size, 1, none⟩ = some (.slice Ap1 emptyO.2.1.length cp1) := (blk_cell BKp5.out 1).trans rfl
       have kp5_2 : w5.cell? ⟨w3.heap.size, 2, none⟩ = some (.slice Ap2 emptyO.2.2.1.length cp2) := (blk_cell BKp5.out 2).trans rfl
       have kp5_3 : w5.cell? ⟨w3.heap.size, 3, none⟩ = some (.slice Ap3 emptyO.2.2.2.length cp3) := (blk_cell BKp5.out 3).trans rfl
       have ltp5 := blk_lt BKp5.out
       have BKq5 : Aside0 (w5.heap[w4.heap.size]? = some (.cells #[(.string o.1), (.slice Aq1 o.2.1.length cq1), (.slice Aq2 o.2.2.1.length cq2), (.slice Aq3 o.2.2.2.length cq3)] 26 (0, 0))) := Aside0.mk (blk_below (blk_new w4 _) hb)
       have kq5_0 : w5.cell? ⟨w4.heap.size, 0, none⟩ = some (.string o.1) := (blk_cell BKq5.out 0).trans rfl
       have kq5_1 : w5.cell? ⟨w4.heap.size, 1, none⟩ = some (.slice Aq1 o.2.1.length cq1) := (blk_cell BKq5.out 1).trans rfl
       have kq5_2 : w5.cell? ⟨w4.heap.size, 2, none⟩ = some (.slice Aq2 o.2.2.1.length cq2) := (blk_cell BKq5.out 2).trans rfl
       have kq5_3 : w5.cell? ⟨w4.heap.size, 3, none⟩ = some (.slice Aq3 o.2.2.2.length cq3) := (blk_cell BKq5.out 3).trans rfl
       have ltq5 := blk_lt BKq5.out
       clear hb HB4 HOa4 HOp4 ka4_0 ka4_1 ka4_2 ka4_3 lta4 BKa4 kp4_0 kp4_1 kp4_2 kp4_3 ltp4 BKp4 HN4))
  go_ret
  exact ⟨rfl, HB5.out⟩
theorem toList_empty {x : ByteArray} (h : x.toList = []) : x = ⟨#[]⟩ := toList_inj (h.trans (by rw [ByteArray.toList_eq]))
theorem tmod_in {x : Int} {n : Nat} (hx : 0 ≤ x) (hn : 0 < n) : 0 ≤ x.tmod (n : Int) ∧ x.tmod (n : Int) < (n : Int) := ⟨Int.tmod_nonneg _ hx, Int.tmod_lt_of_pos _ (by omega)⟩
theorem emod_in {x : Int} {n : Nat} (hn : 0 < n) : 0 ≤ x % (n : Int) ∧ x % (n : Int) < (n : Int) := ⟨Int.emod_nonneg _ (by omega), Int.emod_lt_of_pos _ (by omega)⟩
theorem cuts_c {w : World} {v : Value} {o : Obj6} {at_ : Int} {more : ByteArray} (ha : Ob w v o) (hw : wordsOk o.2.1) (hx : more.size ≤ 140737488355328) (h0 : -9223372036854775808 ≤ at_) (h1 : at_ < 9223372036854775808) : Calls Try.prog 6 #[v, .int .i64 at_, .string more] w fun e w' => e = .returned (.bool true) ∧ Below w.heap.size w w' := by
  cases hsm : decide (o.2.2.1.length ≤ 200) with
  | false => exact cuts1 ha hw hx hsm
  | true =>
    cases hm : mayO o with
    | false => exact cuts2 ha hw hx hsm hm
    | true =>
      have hz : 8 ≤ (formO o).size := by rw [size_form]; exact form_long o
      by_cases he : more.size = 0
      · obtain rfl := size_empty he
        by_cases hn : at_ < 0
        · have hX : 0 ≤ wrap64 (-wrap64 (at_ + 1)) := by rw [wrap64_id (n := at_ + 1) (by omega) (by omega), wrap64_id (by omega) (by omega)]; omega
          exact cuts6 ha hw hsm hm hn (by omega) (tmod_in hX (by omega)).1 (tmod_in hX (by omega)).2
        · exact cuts4 ha hw hsm hm hn (by omega) (emod_in (by omega)).1 (emod_in (by omega)).2
      · have hne : ¬ more.toList = [] := fun h => he (by rw [toList_empty h]; rfl)
        by_cases hn : at_ < 0
        · have hX : 0 ≤ wrap64 (-wrap64 (at_ + 1)) := by rw [wrap64_id (n := at_ + 1) (by omega) (by omega), wrap64_id (by omega) (by omega)]; omega
          exact cuts5 ha hw hx hsm hm hn (by omega) (tmod_in hX (by omega)).1 (tmod_in hX (by omega)).2 hne he
        · exact cuts3 ha hw hx hsm hm hn (by omega) (emod_in (by omega)).1 (emod_in (by omega)).2 hne he
end Go.Proofs.Ytilmndkbloodbaa.M

